/-
  Chapter 3 in plain words: cars, places, what fits. No program is in sight here.
-/
import Derived.Test.YtecjhomfoakaeaaDoorCar1
namespace Go.Proofs.YtecjhomfoakaeaaDoor
open Go.ChangeShapes Go.WideShapes Go.ChangeAt Go.RowKit

/-- A car: its id, its length, its height, its weight. -/
structure C4 where
  f : Int
  t : Int
  r : Int
  u : Int
def C4.ok (c : C4) : Bool := carB c.f c.t c.r c.u
def cc (cs : List C4) : List (List Value) := cs.map fun c => [.int .i64 c.f, .int .i64 c.t, .int .i64 c.r, .int .i64 c.u]
/-- A place: its length, its height, what it bears. -/
structure P3 where
  f : Int
  t : Int
  r : Int
def inB (x : Int) : Bool := decide (0 ≤ x) && decide (x ≤ 9)
def P3.ok (p : P3) : Bool := inB p.f && inB p.t && inB p.r
theorem inB_iff (x : Int) : inB x = true ↔ 0 ≤ x ∧ x ≤ 9 := by simp [inB]
theorem place_no {p : P3} (h : inB p.f = false ∨ inB p.t = false ∨ inB p.r = false) : p.ok = false := by
  unfold P3.ok; rcases h with h | h | h <;> rw [h] <;> simp
theorem place_yes {p : P3} (h1 : inB p.f = true) (h2 : inB p.t = true) (h3 : inB p.r = true) : p.ok = true := by unfold P3.ok; rw [h1, h2, h3]; rfl
def pc (ps : List P3) : List (List Value) := ps.map fun p => [.int .i64 p.f, .int .i64 p.t, .int .i64 p.r]

def ids (cs : List C4) : List Int := cs.map C4.f
/-- Number k is none of those before it. -/
def newAt (xs : List Int) (k j : Nat) : Prop := ∀ i, i < j → xs.getD i 0 ≠ xs.getD k 0
def uniq (xs : List Int) (k : Nat) : Prop := ∀ a, a < k → newAt xs a a
/-- What makes cars valid. -/
def CarsOk (cs : List C4) : Prop := cs.length ≤ 6 ∧ (∀ c ∈ cs, c.ok = true) ∧ uniq (ids cs) cs.length
instance (xs : List Int) (k j : Nat) : Decidable (newAt xs k j) := by unfold newAt; infer_instance
instance (xs : List Int) (k : Nat) : Decidable (uniq xs k) := by unfold uniq; infer_instance
instance (cs : List C4) : Decidable (CarsOk cs) := by unfold CarsOk; infer_instance
def carsB (cs : List C4) : Bool := decide (CarsOk cs)
def placesB (ps : List P3) : Bool := decide (ps.length ≤ 6) && ps.all P3.ok
theorem ids_get {cs : List C4} {k : Nat} {x : C4} (h : Hid (cs[k]? = some x)) : (ids cs).getD k 0 = x.f := by
  have h' := h.out; simp [ids, List.getD_eq_getElem?_getD, h']
theorem cars_next {cs : List C4} {k : Nat} {x : C4} (h : Hid (cs[k]? = some x)) : (cs.take (k + 1)).all C4.ok = ((cs.take k).all C4.ok && x.ok) := by
  rw [take_next h]; simp
theorem carsB_bad {cs : List C4} {k : Nat} {x : C4} (h : Hid (cs[k]? = some x)) (hx : x.ok = false) : carsB cs = false := by
  unfold carsB; rw [decide_eq_false_iff_not]
  intro hc
  have := hc.2.1 x (List.mem_of_getElem? h.out)
  rw [hx] at this; cases this
theorem carsB_twice {cs : List C4} {k j n : Nat} (hl : cs.length = n) (hk : k < n) (hj : j < k) (h : (ids cs).getD j 0 = (ids cs).getD k 0) : carsB cs = false := by
  unfold carsB; rw [decide_eq_false_iff_not]
  intro hc
  exact hc.2.2 k (by omega) j hj h
theorem carsB_long {cs : List C4} {n : Nat} (hl : cs.length = n) (h6 : 6 < n) : carsB cs = false := by
  unfold carsB; rw [decide_eq_false_iff_not]
  intro hc
  have := hc.1; omega
theorem carsB_all {cs : List C4} {k n : Nat} (hl : cs.length = n) (hk : n ≤ k) (h : (cs.take k).all C4.ok = true) (h6 : n ≤ 6) (hu : uniq (ids cs) k) : carsB cs = true := by
  rw [take_all hl hk] at h
  unfold carsB; rw [decide_eq_true_iff]
  exact ⟨by omega, List.all_eq_true.1 h, fun a ha => hu a (by omega)⟩
theorem uniq_next {xs : List Int} {k : Nat} (h : uniq xs k) (hk : newAt xs k k) : uniq xs (k + 1) := by
  intro a ha
  by_cases he : a = k
  · subst he; exact hk
  · exact h a (by omega)
theorem newAt_next {xs : List Int} {k j : Nat} (h : newAt xs k j) (hj : xs.getD j 0 ≠ xs.getD k 0) : newAt xs k (j + 1) := by
  intro i hi
  by_cases he : i = j
  · subst he; exact hj
  · exact h i (by omega)
theorem places_next {ps : List P3} {k : Nat} {x : P3} (h : Hid (ps[k]? = some x)) : (ps.take (k + 1)).all P3.ok = ((ps.take k).all P3.ok && x.ok) := by
  rw [take_next h]; simp
theorem placesB_bad {ps : List P3} {k : Nat} {x : P3} (h : Hid (ps[k]? = some x)) (hx : x.ok = false) : placesB ps = false := by
  have hm : x ∈ ps := List.mem_of_getElem? h.out
  simp only [placesB, Bool.and_eq_false_iff, List.all_eq_false]
  exact .inr ⟨x, hm, by simp [hx]⟩
theorem placesB_all {ps : List P3} {k n : Nat} (hl : ps.length = n) (hk : n ≤ k) (h : (ps.take k).all P3.ok = true) (h5 : n ≤ 6) : placesB ps = true := by
  rw [take_all hl hk] at h
  simp only [placesB, Bool.and_eq_true, decide_eq_true_eq]
  exact ⟨by omega, h⟩
theorem placesB_long {ps : List P3} {n : Nat} (hl : ps.length = n) (h5 : 6 < n) : placesB ps = false := by
  simp only [placesB, Bool.and_eq_false_iff, decide_eq_false_iff_not]; exact .inl (by omega)
end Go.Proofs.YtecjhomfoakaeaaDoor
