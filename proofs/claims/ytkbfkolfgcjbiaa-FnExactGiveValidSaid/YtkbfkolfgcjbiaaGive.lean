/-
  Lists that tell for each car its place, in plain words: which are valid, what they waste. No program is in sight here.
-/
import Derived.Test.YtkbfkolfgcjbiaaSel
namespace Go.Proofs.Ytkbfkolfgcjbiaa
open Go.ChangeShapes Go.WideShapes Go.ChangeAt Go.RowKit

/-- May car x have place z, if those in prev are taken? (-1: none.) -/
def okZ (x : C4) (ps : List P3) (prev : List Int) (z : Int) : Bool := decide (z = -1) || (decide (0 ≤ z) && fitAt x ps z.toNat && !prev.contains z)
def okAt (cs : List C4) (ps : List P3) (g : List Int) (k : Nat) : Bool := match g[k]?, cs[k]? with | some z, some x => okZ x ps (g.take k) z | _, _ => false
theorem okAt_get {cs : List C4} {ps : List P3} {g : List Int} {k : Nat} {z : Int} {x : C4} (hz : Hid (g[k]? = some z)) (hx : Hid (cs[k]? = some x)) : okAt cs ps g k = okZ x ps (g.take k) z := by
  have h1 := hz.out; have h2 := hx.out; simp [okAt, h1, h2]
def giveB (cs : List C4) (ps : List P3) (g : List Int) : Bool := carsB cs && placesB ps && decide (g.length = cs.length) && (List.range g.length).all (okAt cs ps g)
theorem giveB_cars {cs : List C4} {ps : List P3} {g : List Int} (h : carsB cs = false) : giveB cs ps g = false := by simp [giveB, h]
theorem giveB_places {cs : List C4} {ps : List P3} {g : List Int} (h : placesB ps = false) : giveB cs ps g = false := by simp [giveB, h]
theorem giveB_len {cs : List C4} {ps : List P3} {g : List Int} (h : g.length ≠ cs.length) : giveB cs ps g = false := by simp [giveB, h]
theorem giveB_bad {cs : List C4} {ps : List P3} {g : List Int} {k : Nat} (hk : k < g.length) (h : okAt cs ps g k = false) : giveB cs ps g = false := by
  have : (List.range g.length).all (okAt cs ps g) = false := by rw [List.all_eq_false]; exact ⟨k, List.mem_range.2 hk, by simp [h]⟩
  simp only [giveB, this, Bool.and_false]
theorem giveB_all {cs : List C4} {ps : List P3} {g : List Int} (hc : carsB cs = true) (hp : placesB ps = true) (hl : g.length = cs.length) (h : ∀ i, i < g.length → okAt cs ps g i = true) : giveB cs ps g = true := by
  have h1 : (List.range g.length).all (okAt cs ps g) = true := by rw [List.all_eq_true]; exact fun i hi => h i (List.mem_range.1 hi)
  unfold giveB; rw [h1, hc, hp]; simp [hl]
theorem giveB_parts {cs : List C4} {ps : List P3} {g : List Int} (h : giveB cs ps g = true) : carsB cs = true ∧ placesB ps = true ∧ g.length = cs.length ∧ ∀ i, i < g.length → okAt cs ps g i = true := by
  simp only [giveB, Bool.and_eq_true, decide_eq_true_eq, List.all_eq_true, List.mem_range] at h
  exact ⟨h.1.1.1, h.1.1.2, h.1.2, h.2⟩
theorem okAt_next {cs : List C4} {ps : List P3} {g : List Int} {k : Nat} (h : ∀ i, i < k → okAt cs ps g i = true) (hk : okAt cs ps g k = true) : ∀ i, i < k + 1 → okAt cs ps g i = true := by
  intro i hi
  by_cases he : i = k
  · subst he; exact hk
  · exact h i (by omega)
theorem okZ_none (x : C4) (ps : List P3) (prev : List Int) : okZ x ps prev (-1) = true := by simp [okZ]
theorem okZ_neg {x : C4} {ps : List P3} {prev : List Int} {z : Int} (h1 : z ≠ -1) (h : z < 0) : okZ x ps prev z = false := by simp [okZ, h1]; omega
theorem okZ_far {x : C4} {ps : List P3} {prev : List Int} {z : Int} {n : Nat} (hn : ps.length = n) (h1 : z ≠ -1) (h : (n : Int) ≤ z) : okZ x ps prev z = false := by
  have : ps[z.toNat]? = none := List.getElem?_eq_none (by omega)
  simp [okZ, h1, fitAt, this]
theorem okZ_taken {x : C4} {ps : List P3} {prev : List Int} {z : Int} (h1 : z ≠ -1) (h : prev.contains z = true) : okZ x ps prev z = false := by simp only [okZ, h]; simp [h1]
theorem okZ_fit {x : C4} {ps : List P3} {prev : List Int} {z : Int} {i : Nat} {p : P3} (hz : z = i) (hp : Hid (ps[i]? = some p)) (h : prev.contains z = false) : okZ x ps prev z = fitP x p := by
  subst hz
  have h1 : ((i : Int) = -1) = False := by simp
  simp only [okZ, h]
  rw [show ((i : Int)).toNat = i by omega, fitAt_get hp]
  simp [h1]
theorem carsB_get {cs : List C4} {k : Nat} {x : C4} (h : carsB cs = true) (hx : Hid (cs[k]? = some x)) : x.ok = true := by
  simp only [carsB, decide_eq_true_eq] at h
  exact h.2.1 x (List.mem_of_getElem? hx.out)
theorem carsB_len {cs : List C4} (h : carsB cs = true) : cs.length ≤ 6 := by
  simp only [carsB, decide_eq_true_eq] at h; exact h.1
/-- Is z among the places for a valid car? -/
theorem forL_has {x : C4} {ps : List P3} {z : Int} (hx : x.ok = true) (hp : placesB ps = true) : (forL x ps).contains z = (decide (0 ≤ z) && fitAt x ps z.toNat) := by
  have hB : forB x ps = true := by unfold forB; rw [hx, hp]; rfl
  rw [forL_yes hB, Bool.eq_iff_iff]
  simp only [List.contains_iff_mem, mem_selK, Bool.and_eq_true, decide_eq_true_eq]
  constructor
  · rintro ⟨i, rfl, hi, hf⟩; exact ⟨by omega, by simpa using hf⟩
  · rintro ⟨h0, hf⟩
    refine ⟨z.toNat, by omega, ?_, hf⟩
    by_cases hl : z.toNat < ps.length
    · exact hl
    · simp [fitAt, List.getElem?_eq_none (show ps.length ≤ z.toNat by omega)] at hf
theorem okZ_spec {x : C4} {ps : List P3} {prev : List Int} {z : Int} (h1 : z ≠ -1) (hx : x.ok = true) (hp : placesB ps = true) : okZ x ps prev z = ((forL x ps).contains z && !prev.contains z) := by
  rw [forL_has hx hp]; simp [okZ, h1]

/-- Which places are taken by the first k? -/
def takenL (g : List Int) (k : Nat) : List Value := (List.range 6).map fun (p : Nat) => Value.bool ((g.take k).contains (p : Int))
theorem takenL_get (g : List Int) (k : Nat) {p : Nat} (h : p < 6) : (takenL g k)[p]? = some (.bool ((g.take k).contains (p : Int))) := by
  unfold takenL; rw [List.getElem?_map, List.getElem?_range h]; rfl
theorem takenL_zero (g : List Int) : takenL g 0 = [.bool false, .bool false, .bool false, .bool false, .bool false, .bool false] := by simp [takenL]; rfl
theorem contains_snoc (l : List Int) (y z : Int) : (l ++ [y]).contains z = (l.contains z || decide (z = y)) := by
  rw [Bool.eq_iff_iff]; simp
theorem takenL_none {g : List Int} {k : Nat} {z : Int} (hz : Hid (g[k]? = some z)) (h : z < 0) : takenL g (k + 1) = takenL g k := by
  unfold takenL
  apply List.map_congr_left
  intro p _
  rw [take_next hz, contains_snoc]
  have h2 : decide ((p : Int) = z) = false := by rw [decide_eq_false_iff_not]; omega
  rw [h2, Bool.or_false]
theorem takenL_next {g : List Int} {k p : Nat} {z : Int} (hz : Hid (g[k]? = some z)) (h : z = p) : (takenL g k).set p (.bool true) = takenL g (k + 1) := by
  apply List.ext_getElem?
  intro i
  by_cases hi : i < 6
  · rw [takenL_get g (k + 1) hi, List.getElem?_set, take_next hz, contains_snoc, takenL_get g k hi]
    have hl : (takenL g k).length = 6 := by simp [takenL]
    by_cases he : p = i
    · subst he; rw [if_pos rfl, if_pos (by omega)]; subst h; simp
    · rw [if_neg he]
      have : decide ((i : Int) = z) = false := by simp; omega
      rw [this, Bool.or_false]
  · rw [List.getElem?_eq_none (by simp [takenL]; omega), List.getElem?_eq_none (by simp [takenL]; omega)]
end Go.Proofs.Ytkbfkolfgcjbiaa
