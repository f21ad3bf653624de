/-
  Lists that tell for each car its place, in plain words: which are valid, what they waste. No program is in sight here.
-/
import Derived.Test.YtmmaeninlhbaaaaDoorSel
namespace Go.Proofs.YtmmaeninlhbaaaaDoor
open Go.ChangeShapes Go.WideShapes Go.ChangeAt Go.RowKit

/-- May car x have place z, if those in prev are taken? (-1: none.) -/
def okZ (x : C4) (ps : List P3) (prev : List Int) (z : Int) : Bool := decide (z = -1) || (decide (0 ≤ z) && fitAt x ps z.toNat && !prev.contains z)
def okAt (cs : List C4) (ps : List P3) (g : List Int) (k : Nat) : Bool := match g[k]?, cs[k]? with | some z, some x => okZ x ps (g.take k) z | _, _ => false
theorem okAt_get {cs : List C4} {ps : List P3} {g : List Int} {k : Nat} {z : Int} {x : C4} (hz : Hid (g[k]? = some z)) (hx : Hid (cs[k]? = some x)) : okAt cs ps g k = okZ x ps (g.take k) z := by
  have h1 := hz.out; have h2 := hx.out; simp [okAt, h1, h2]
def giveB (cs : List C4) (ps : List P3) (g : List Int) : Bool := carsB cs && placesB ps && decide (g.length = cs.length) && (List.range g.length).all (okAt cs ps g)
theorem giveB_cars {cs : List C4} {ps : List P3} {g : List Int} (h : carsB cs = false) : giveB cs ps g = false := by simp [giveB, h]
theorem giveB_places {cs : List C4} {ps : List P3} {g : List Int} (h : placesB ps = false) : giveB cs ps g = false := by simp [giveB, h]
theorem giveB_len {cs : List C4} {ps : List P3} {g : List Int} (h : g.length ≠ cs.length) : giveB cs ps g = false := by simp [giveB, h]
theorem giveB_bad {cs : List C4} {ps : List P3} {g : List Int} {k : Nat} (hk : k < g.length) (h : okAt cs ps g k = false) : giveB cs ps g = false := by
  have : (List.range g.length).all (okAt cs ps g) = false := by rw [List.all_eq_false]; exact ⟨k, List.mem_range.2 hk, by simp [h]⟩
  simp only [giveB, this, Bool.and_false]
theorem giveB_all {cs : List C4} {ps : List P3} {g : List Int} (hc : carsB cs = true) (hp : placesB ps = true) (hl : g.length = cs.length) (h : ∀ i, i < g.length → okAt cs ps g i = true) : giveB cs ps g = true := by
  have h1 : (List.range g.length).all (okAt cs ps g) = true := by rw [List.all_eq_true]; exact fun i hi => h i (List.mem_range.1 hi)
  unfold giveB; rw [h1, hc, hp]; simp [hl]
theorem giveB_parts {cs : List C4} {ps : List P3} {g : List Int} (h : giveB cs ps g = true) : carsB cs = true ∧ placesB ps = true ∧ g.length = cs.length ∧ ∀ i, i < g.length → okAt cs ps g i = true := by
  simp only [giveB, Bool.and_eq_true, decide_eq_true_eq, List.all_eq_true, List.mem_range] at h
  exact ⟨h.1.1.1, h.1.1.2, h.1.2, h.2⟩
theorem okAt_next {cs : List C4} {ps : List P3} {g : List Int} {k : Nat} (h : ∀ i, i < k → okAt cs ps g i = true) (hk : okAt cs ps g k = true) : ∀ i, i < k + 1 → okAt cs ps g i = true := by
  intro i hi
  by_cases he : i = k
  · subst he; exact hk
  · exact h i (by omega)
theorem okZ_none (x : C4) (ps : List P3) (prev : List Int) : okZ x ps prev (-1) = true := by simp [okZ]
theorem okZ_neg {x : C4} {ps : List P3} {prev : List Int} {z : Int} (h1 : z ≠ -1) (h : z < 0) : okZ x ps prev z = false := by simp [okZ, h1]; omega
theorem okZ_far {x : C4} {ps : List P3} {prev : List Int} {z : Int} {n : Nat} (hn : ps.length = n) (h1 : z ≠ -1) (h : (n : Int) ≤ z) : okZ x ps prev z = false := by
  have : ps[z.toNat]? = none := List.getElem?_eq_none (by omega)
  simp [okZ, h1, fitAt, this]
theorem okZ_taken {x : C4} {ps : List P3} {prev : List Int} {z : Int} (h1 : z ≠ -1) (h : prev.contains z = true) : okZ x ps prev z = false := by simp only [okZ, h]; simp [h1]
theorem okZ_fit {x : C4} {ps : List P3} {prev : List Int} {z : Int} {i : Nat} {p : P3} (hz : z = i) (hp : Hid (ps[i]? = some p)) (h : prev.contains z = false) : okZ x ps prev z = fitP x p := by
  subst hz
  have h1 : ((i : Int) = -1) = False := by simp
  simp only [okZ, h]
  rw [show ((i : Int)).toNat = i by omega, fitAt_get hp]
  simp [h1]
theorem carsB_get {cs : List C4} {k : Nat} {x : C4} (h : carsB cs = true) (hx : Hid (cs[k]? = some x)) : x.ok = true := by
  simp only [carsB, decide_eq_true_eq] at h
  exact h.2.1 x (List.mem_of_getElem? hx.out)
theorem carsB_len {cs : List C4} (h : carsB cs = true) : cs.length ≤ 6 := by
  simp only [carsB, decide_eq_true_eq] at h; exact h.1
/-- Is z among the places for a valid car? -/
theorem forL_has {x : C4} {ps : List P3} {z : Int} (hx : x.ok = true) (hp : placesB ps = true) : (forL x ps).contains z = (decide (0 ≤ z) && fitAt x ps z.toNat) := by
  have hB : forB x ps = true := by unfold forB; rw [hx, hp]; rfl
  rw [forL_yes hB, Bool.eq_iff_iff]
  simp only [List.contains_iff_mem, mem_selK, Bool.and_eq_true, decide_eq_true_eq]
  constructor
  · rintro ⟨i, rfl, hi, hf⟩; exact ⟨by omega, by simpa using hf⟩
  · rintro ⟨h0, hf⟩
    refine ⟨z.toNat, by omega, ?_, hf⟩
    by_cases hl : z.toNat < ps.length
    · exact hl
    · simp [fitAt, List.getElem?_eq_none (show ps.length ≤ z.toNat by omega)] at hf
theorem okZ_spec {x : C4} {ps : List P3} {prev : List Int} {z : Int} (h1 : z ≠ -1) (hx : x.ok = true) (hp : placesB ps = true) : okZ x ps prev z = ((forL x ps).contains z && !prev.contains z) := by
  rw [forL_has hx hp]; simp [okZ, h1]

/-- Which places are taken by the first k? -/
def takenL (g : List Int) (k : Nat) : List Value := (List.range 6).map fun (p : Nat) => Value.bool ((g.take k).contains (p : Int))
theorem takenL_get (g : List Int) (k : Nat) {p : Nat} (h : p < 6) : (takenL g k)[p]? = some (.bool ((g.take k).contains (p : Int))) := by
  unfold takenL; rw [List.getElem?_map, List.getElem?_range h]; rfl
theorem takenL_zero (g : List Int) : takenL g 0 = [.bool false, .bool false, .bool false, .bool false, .bool false, .bool false] := by simp [takenL]; rfl
theorem contains_snoc (l : List Int) (y z : Int) : (l ++ [y]).contains z = (l.contains z || decide (z = y)) := by
  rw [Bool.eq_iff_iff]; simp
theorem takenL_none {g : List Int} {k : Nat} {z : Int} (hz : Hid (g[k]? = some z)) (h : z < 0) : takenL g (k + 1) = takenL g k := by
  unfold takenL
  apply List.map_congr_left
  intro p _
  rw [take_next hz, contains_snoc]
  have h2 : decide ((p : Int) = z) = false := by rw [decide_eq_false_iff_not]; omega
  rw [h2, Bool.or_false]
theorem takenL_next {g : List Int} {k p : Nat} {z : Int} (hz : Hid (g[k]? = some z)) (h : z = p) : (takenL g k).set p (.bool true) = takenL g (k + 1) := by
  apply List.ext_getElem?
  intro i
  by_cases hi : i < 6
  · rw [takenL_get g (k + 1) hi, List.getElem?_set, take_next hz, contains_snoc, takenL_get g k hi]
    have hl : (takenL g k).length = 6 := by simp [takenL]
    by_cases he : p = i
    · subst he; rw [if_pos rfl, if_pos (by omega)]; subst h; simp
    · rw [if_neg he]
      have : decide ((i : Int) = z) = false := by simp; omega
      rw [this, Bool.or_false]
  · rw [List.getElem?_eq_none (by simp [takenL]; omega), List.getElem?_eq_none (by simp [takenL]; omega)]

/-- By how much a place is greater than a car. -/
def wOf (x : C4) (p : P3) : Int := p.f - x.t + p.t - x.r + p.r - x.u
def wAt (cs : List C4) (ps : List P3) (g : List Int) (k : Nat) : Int := match g[k]?, cs[k]? with
  | some z, some x => if 0 ≤ z then (match ps[z.toNat]? with | some p => wOf x p | none => 0) else 0
  | _, _ => 0
def wasteK (cs : List C4) (ps : List P3) (g : List Int) : Nat → Int
  | 0 => 0
  | k + 1 => wasteK cs ps g k + wAt cs ps g k
def wasteL (cs : List C4) (ps : List P3) (g : List Int) : Int := if giveB cs ps g then wasteK cs ps g g.length else -1
theorem wasteL_no {cs : List C4} {ps : List P3} {g : List Int} (h : giveB cs ps g = false) : wasteL cs ps g = -1 := by simp [wasteL, h]
theorem wasteL_yes {cs : List C4} {ps : List P3} {g : List Int} (h : giveB cs ps g = true) : wasteL cs ps g = wasteK cs ps g g.length := by simp [wasteL, h]
theorem wAt_none {cs : List C4} {ps : List P3} {g : List Int} {k : Nat} {z : Int} (hz : Hid (g[k]? = some z)) (h : z < 0) : wAt cs ps g k = 0 := by
  have h1 := hz.out
  simp only [wAt, h1]
  split
  · rename_i h2 _; injection h2 with h2; subst h2; rw [if_neg (by omega)]
  · rfl
theorem wAt_some {cs : List C4} {ps : List P3} {g : List Int} {k p : Nat} {z : Int} {x : C4} {y : P3} (hz : Hid (g[k]? = some z)) (h : z = p) (hx : Hid (cs[k]? = some x)) (hy : Hid (ps[p]? = some y)) : wAt cs ps g k = wOf x y := by
  have h1 := hz.out; have h2 := hx.out; have h3 := hy.out
  subst h
  simp only [wAt, h1, h2]
  rw [if_pos (by omega), show ((p : Int)).toNat = p by omega, h3]
theorem car_range {x : C4} (h : x.ok = true) : (1 ≤ x.f ∧ x.f ≤ 99) ∧ (1 ≤ x.t ∧ x.t ≤ 9) ∧ (1 ≤ x.r ∧ x.r ≤ 9) ∧ (1 ≤ x.u ∧ x.u ≤ 9) := by
  simp only [C4.ok, carB, Bool.and_eq_true, decide_eq_true_eq] at h; omega
theorem place_range {p : P3} (h : p.ok = true) : (0 ≤ p.f ∧ p.f ≤ 9) ∧ (0 ≤ p.t ∧ p.t ≤ 9) ∧ (0 ≤ p.r ∧ p.r ≤ 9) := by
  simp only [P3.ok, inB, Bool.and_eq_true, decide_eq_true_eq] at h; omega
theorem placesB_get {ps : List P3} {k : Nat} {x : P3} (h : placesB ps = true) (hx : Hid (ps[k]? = some x)) : x.ok = true := by
  simp only [placesB, Bool.and_eq_true, List.all_eq_true] at h
  exact h.2 x (List.mem_of_getElem? hx.out)
theorem fitP_iff {x : C4} {p : P3} : fitP x p = true ↔ x.t ≤ p.f ∧ x.r ≤ p.t ∧ x.u ≤ p.r := by
  simp [fitP, fitsB, and_assoc]
/-- A number that is no -1 in a valid list is a place that the car fits into. -/
theorem okAt_place {cs : List C4} {ps : List P3} {g : List Int} {k : Nat} {z : Int} {x : C4} (h : okAt cs ps g k = true) (hz : Hid (g[k]? = some z)) (hx : Hid (cs[k]? = some x)) (h0 : 0 ≤ z) :
    ∃ (p : Nat) (y : P3), z = p ∧ p < ps.length ∧ ps[p]? = some y ∧ fitP x y = true := by
  rw [okAt_get hz hx] at h
  simp only [okZ, Bool.or_eq_true, Bool.and_eq_true, decide_eq_true_eq] at h
  rcases h with h | ⟨⟨_, h⟩, _⟩
  · omega
  · unfold fitAt at h
    split at h
    · rename_i y hy
      exact ⟨z.toNat, y, by omega, (List.getElem?_eq_some_iff.1 hy).1, hy, h⟩
    · cases h
theorem wAt_range {cs : List C4} {ps : List P3} {g : List Int} (h : giveB cs ps g = true) {k : Nat} (hk : k < g.length) : 0 ≤ wAt cs ps g k ∧ wAt cs ps g k ≤ 27 := by
  obtain ⟨hc, hp, hl, ha⟩ := giveB_parts h
  obtain ⟨z, hz⟩ : ∃ z, g[k]? = some z := ⟨_, List.getElem?_eq_getElem hk⟩
  obtain ⟨x, hx⟩ : ∃ x, cs[k]? = some x := ⟨_, List.getElem?_eq_getElem (by omega)⟩
  have HZ := Lib.hid hz
  have HX := Lib.hid hx
  by_cases h0 : 0 ≤ z
  · obtain ⟨p, y, hzp, hpl, hy, hf⟩ := okAt_place (ha k hk) HZ HX h0
    have HY := Lib.hid hy
    rw [wAt_some HZ hzp HX HY]
    have h1 := car_range (carsB_get hc HX)
    have h2 := place_range (placesB_get hp HY)
    have h3 := fitP_iff.1 hf
    unfold wOf; omega
  · rw [wAt_none HZ (by omega)]; omega
theorem wasteK_range {cs : List C4} {ps : List P3} {g : List Int} (h : giveB cs ps g = true) : ∀ k, k ≤ g.length → 0 ≤ wasteK cs ps g k ∧ wasteK cs ps g k ≤ 27 * k
  | 0, _ => by simp [wasteK]
  | k + 1, hk => by
    have h1 := wasteK_range h k (by omega)
    have h2 := wAt_range h (k := k) (by omega)
    simp only [wasteK]; omega
theorem wasteK_next (cs : List C4) (ps : List P3) (g : List Int) (k : Nat) : wasteK cs ps g (k + 1) = wasteK cs ps g k + wAt cs ps g k := rfl
end Go.Proofs.YtmmaeninlhbaaaaDoor
