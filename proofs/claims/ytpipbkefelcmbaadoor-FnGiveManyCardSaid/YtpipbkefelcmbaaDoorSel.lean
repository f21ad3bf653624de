/-
  Lists of the numbers that a test picks; which places a car fits into. No program is in sight here.
-/
import Derived.Test.YtpipbkefelcmbaaDoorC3
namespace Go.Proofs.YtpipbkefelcmbaaDoor
open Go.ChangeShapes Go.WideShapes Go.ChangeAt Go.RowKit

/-- The numbers below k that f picks. -/
def selK (f : Nat → Bool) (k : Nat) : List Int := ((List.range k).filter f).map fun (i : Nat) => (i : Int)
theorem selK_zero (f : Nat → Bool) : selK f 0 = [] := rfl
theorem selK_yes {f : Nat → Bool} {k : Nat} (h : f k = true) : selK f (k + 1) = selK f k ++ [(k : Int)] := by
  simp [selK, List.range_succ, List.filter_append, h]
theorem selK_no {f : Nat → Bool} {k : Nat} (h : f k = false) : selK f (k + 1) = selK f k := by
  simp [selK, List.range_succ, List.filter_append, h]
theorem selK_len (f : Nat → Bool) (k : Nat) : (selK f k).length ≤ k := by
  have := List.length_filter_le f (List.range k); simpa [selK] using this
theorem mem_selK {f : Nat → Bool} {k : Nat} {z : Int} : z ∈ selK f k ↔ ∃ i : Nat, z = i ∧ i < k ∧ f i = true := by
  simp only [selK, List.mem_map, List.mem_filter, List.mem_range]
  constructor
  · rintro ⟨i, ⟨h1, h2⟩, rfl⟩; exact ⟨i, rfl, h1, h2⟩
  · rintro ⟨i, rfl, h1, h2⟩; exact ⟨i, ⟨h1, h2⟩, rfl⟩
theorem selK_congr {f g : Nat → Bool} {k : Nat} (h : ∀ i, i < k → f i = g i) : selK f k = selK g k := by
  unfold selK
  rw [List.filter_congr (fun i hi => h i (List.mem_range.1 hi))]
theorem selK_none {f : Nat → Bool} {k : Nat} (h : ∀ i, i < k → f i = false) : selK f k = [] := by
  unfold selK
  rw [List.filter_eq_nil_iff.2 (fun i hi => by rw [h i (List.mem_range.1 hi)]; simp)]; rfl

/-- Does a car fit into a place? -/
def fitP (x : C4) (p : P3) : Bool := fitsB x.t x.r x.u p.f p.t p.r
def fitAt (x : C4) (ps : List P3) (i : Nat) : Bool := match ps[i]? with | some p => fitP x p | none => false
theorem fitAt_get {x : C4} {ps : List P3} {i : Nat} {p : P3} (h : Hid (ps[i]? = some p)) : fitAt x ps i = fitP x p := by
  have h' := h.out; simp [fitAt, h']
/-- Into which places does a car fit? -/
def forB (x : C4) (ps : List P3) : Bool := x.ok && placesB ps
def forL (x : C4) (ps : List P3) : List Int := if forB x ps then selK (fitAt x ps) ps.length else []
theorem forL_no {x : C4} {ps : List P3} (h : forB x ps = false) : forL x ps = [] := by simp [forL, h]
theorem forL_yes {x : C4} {ps : List P3} (h : forB x ps = true) : forL x ps = selK (fitAt x ps) ps.length := by simp [forL, h]
theorem placesB_len {ps : List P3} (h : placesB ps = true) : ps.length ≤ 6 := by
  simp only [placesB, Bool.and_eq_true, decide_eq_true_eq] at h; exact h.1
theorem forB_len {x : C4} {ps : List P3} (h : forB x ps = true) : ps.length ≤ 6 := by
  unfold forB at h; simp only [Bool.and_eq_true] at h; exact placesB_len h.2
theorem forL_short (x : C4) (ps : List P3) : (forL x ps).length ≤ 6 := by
  cases h : forB x ps
  · rw [forL_no h]; simp
  · rw [forL_yes h]; have := selK_len (fitAt x ps) ps.length; have := forB_len h; omega
end Go.Proofs.YtpipbkefelcmbaaDoor
