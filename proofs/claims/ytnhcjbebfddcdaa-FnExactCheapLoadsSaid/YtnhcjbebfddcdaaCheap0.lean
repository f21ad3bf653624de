/-
  CheapLoads in plain words: the hours by price, and what each adds. No program is in sight here.
-/
import Derived.Test.YtnhcjbebfddcdaaSome
namespace Go.Proofs.Ytnhcjbebfddcdaa
open Go.ChangeShapes Go.WideShapes Go.ChangeAt Go.RowKit

/-- Hour a comes before hour b: it is cheaper, or as cheap and earlier. -/
def lx (p : List Int) (a b : Nat) : Bool := decide (p.getD a 0 < p.getD b 0) || (decide (p.getD a 0 = p.getD b 0) && decide (a < b))
theorem lx_iff (p : List Int) (a b : Nat) : lx p a b = true ↔ p.getD a 0 < p.getD b 0 ∨ (p.getD a 0 = p.getD b 0 ∧ a < b) := by simp [lx]
def withH (S : Nat → Bool) (h : Nat) (j : Nat) : Bool := S j || decide (j = h)
def bef (p : List Int) (h : Nat) (j : Nat) : Bool := lx p j h
def gainI (ns : List N4) (feed p : List Int) (h : Nat) : Int := mostI ns (someL feed (withH (bef p h) h) 6) - mostI ns (someL feed (bef p h) 6)
def loadL (ns : List N4) (feed p : List Int) (S : Nat → Bool) : List Int := (List.range 6).map fun j => if S j then gainI ns feed p j else 0
theorem loadL_len (ns : List N4) (feed p : List Int) (S : Nat → Bool) : (loadL ns feed p S).length = 6 := by simp [loadL]
theorem loadL_congr {ns : List N4} {feed p : List Int} {S S' : Nat → Bool} (h : ∀ j, j < 6 → S j = S' j) : loadL ns feed p S = loadL ns feed p S' := by
  unfold loadL
  exact List.map_congr_left fun j hj => by rw [h j (List.mem_range.1 hj)]
theorem range_set {α : Type} (n h : Nat) (f : Nat → α) (v : α) (hh : h < n) : ((List.range n).map f).set h v = (List.range n).map fun j => if j = h then v else f j := by
  apply List.ext_getElem?
  intro i
  rw [List.getElem?_set, List.getElem?_map, List.getElem?_map]
  by_cases hi : i < n
  · rw [List.getElem?_range hi]
    by_cases he : h = i
    · subst he; simp [hh]
    · rw [if_neg he]; simp [show ¬ i = h by omega]
  · have h1 : (List.range n)[i]? = none := by simp; omega
    rw [h1]; simp; omega
theorem someL_set {feed : List Int} {S : Nat → Bool} {h : Nat} (hh : h < 6) : (someL feed S 6).set h (feed.getD h 0) = someL feed (withH S h) 6 := by
  unfold someL; rw [range_set 6 h _ _ hh]
  refine List.map_congr_left fun j _ => ?_
  unfold withH
  by_cases hj : j = h
  · subst hj; simp
  · simp [hj]
theorem loadL_set {ns : List N4} {feed p : List Int} {S : Nat → Bool} {h : Nat} (hh : h < 6) : (loadL ns feed p S).set h (gainI ns feed p h) = loadL ns feed p (withH S h) := by
  unfold loadL; rw [range_set 6 h _ _ hh]
  refine List.map_congr_left fun j _ => ?_
  unfold withH
  by_cases hj : j = h
  · subst hj; simp
  · simp [hj]

theorem selS_none {b : Bool} {s : Nat} {xs : List Int} : ∀ k : Nat, (∀ j, j < k → s.testBit j ≠ b) → selS b s xs k = 0
  | 0, _ => rfl
  | k + 1, h => by
    simp only [selS]
    rw [selS_none k (fun j hj => h j (by omega)), if_neg (h k (by omega))]; rfl
theorem selS_zero {b : Bool} {s : Nat} {xs : List Int} (h : ∀ x ∈ xs, x = 0) : ∀ k : Nat, selS b s xs k = 0
  | 0 => rfl
  | k + 1 => by
    simp only [selS]
    have hg : xs.getD k 0 = 0 := by
      rw [List.getD_eq_getElem?_getD]
      cases hk : xs[k]? with
      | none => rfl
      | some x => simpa using h x (List.mem_of_getElem? hk)
    rw [selS_zero h k, hg]; simp
theorem bits63 : ∀ j : Nat, j < 6 → (63 : Nat).testBit j = true := by decide
theorem cutW_all {ws : List Int} {rs : List (List Int)} (hw : small ws) (hr : rowsSmall rs) : ∀ k : Nat, cutW 63 ws rs k = 0
  | 0 => rfl
  | k + 1 => by
    simp only [cutW]
    have hg := small_get hw k
    have hl := (row_get hr k).2
    rw [cutW_all hw hr k, selS_none _ (fun j hj => by rw [bits63 j (by omega)]; simp)]
    omega
theorem mostI_zero {ns : List N4} (h : needsB ns = true) (feed : List Int) (S : Nat → Bool) (hS : ∀ j, j < 6 → S j = false) (hf : small feed) : mostI ns (someL feed S 6) = 0 := by
  have hfb : feedB (someL feed S 6) = true := feedB_mk (someL_len _ _ _) (someL_small hf S 6)
  have h1 := mostI_bd h hfb
  have h2 := leastI_le (cutI ns (someL feed S 6)) 63 63 (Nat.le_refl _)
  have h3 : cutI ns (someL feed S 6) 63 = 0 := by
    unfold cutI cutOfI
    rw [cutW_all (wants_small h) (rates_small h), selS_zero]
    · rfl
    · intro x hx
      simp only [someL, List.mem_map, List.mem_range] at hx
      obtain ⟨j, hj, rfl⟩ := hx
      rw [hS j hj]; simp
  unfold mostI at *
  omega

/-- The hours that come before hour h at price q. -/
def stI (p : List Int) (q : Int) (h : Nat) (j : Nat) : Bool := decide (p.getD j 0 < q) || (decide (p.getD j 0 = q) && decide (j < h))
theorem stI_bef {p : List Int} {q : Int} {h : Nat} (hp : p.getD h 0 = q) : stI p q h = bef p h := by
  funext j; unfold stI bef lx; rw [hp]
theorem stI_eq {p : List Int} {q : Int} {h : Nat} (hp : p.getD h 0 = q) (j : Nat) : stI p q (h + 1) j = withH (stI p q h) h j := by
  unfold stI withH
  rw [Bool.eq_iff_iff]
  by_cases hj : j = h
  · subst hj; rw [hp]; simp
  · dsimp only
    generalize p.getD j 0 = x
    have h1 : (j < h + 1) ↔ (j < h) := by omega
    simp [h1, hj]
theorem stI_ne {p : List Int} {q : Int} {h : Nat} (hp : p.getD h 0 ≠ q) (j : Nat) : stI p q (h + 1) j = stI p q h j := by
  unfold stI
  rw [Bool.eq_iff_iff]
  by_cases hj : j = h
  · subst hj
    generalize p.getD j 0 = x at *
    simp [hp]
  · generalize p.getD j 0 = x; simp; omega
theorem stI_next {p : List Int} {q : Int} (j : Nat) (hj : j < 6) : stI p q 6 j = stI p (q + 1) 0 j := by
  unfold stI
  generalize p.getD j 0 = x
  rw [Bool.eq_iff_iff]; simp; omega
theorem stI_end {p : List Int} (hp : small p) (j : Nat) : stI p 31 0 j = true := by
  have := small_get hp j
  unfold stI
  generalize p.getD j 0 = x at *
  simp; omega
theorem stI_start {p : List Int} (hp : small p) (j : Nat) : stI p 0 0 j = false := by
  have := small_get hp j
  unfold stI
  generalize p.getD j 0 = x at *
  simp; omega

/-- A set of hours that has, with each hour, all that come before it. -/
def Closed (p : List Int) (s : Nat) : Prop := ∀ j, j < 6 → s.testBit j = true → ∀ i, i < 6 → lx p i j = true → s.testBit i = true
/-- b is the first hour that is not in s. -/
def IsNext (p : List Int) (s b : Nat) : Prop := b < 6 ∧ s.testBit b = false ∧ ∀ j, j < 6 → s.testBit j = false → j = b ∨ lx p b j = true
theorem next_bef {p : List Int} {s b : Nat} (hc : Closed p s) (hb : IsNext p s b) (j : Nat) (hj : j < 6) : s.testBit j = bef p b j := by
  rw [Bool.eq_iff_iff]
  unfold bef
  constructor
  · intro h
    rw [lx_iff]
    by_cases h1 : p.getD j 0 < p.getD b 0 ∨ (p.getD j 0 = p.getD b 0 ∧ j < b)
    · exact h1
    · exfalso
      have hjb : j ≠ b := by rintro rfl; rw [hb.2.1] at h; cases h
      have h2 : lx p b j = true := by rw [lx_iff]; omega
      have := hc j hj h b hb.1 h2
      rw [hb.2.1] at this; cases this
  · intro h
    cases hs : s.testBit j
    · exfalso
      rcases hb.2.2 j hj hs with rfl | h2
      · rw [lx_iff] at h; omega
      · rw [lx_iff] at h h2; omega
    · rfl
theorem bit_add (s b : Nat) (hs : s < 64) (hb : b < 6) (h : s.testBit b = false) : s + 2 ^ b < 64 ∧ ∀ j, j < 6 → (s + 2 ^ b).testBit j = withH s.testBit b j := by
  have h' : ∀ s : Nat, s < 64 → ∀ b : Nat, b < 6 → s.testBit b = false → s + 2 ^ b < 64 ∧ ∀ j, j < 6 → (s + 2 ^ b).testBit j = withH s.testBit b j := by unfold withH; decide +kernel
  exact h' s hs b hb h
def cnt6 (s : Nat) : Nat := ((List.range 6).filter fun j => s.testBit j).length
theorem cnt6_add (s b : Nat) (hs : s < 64) (hb : b < 6) (h : s.testBit b = false) : cnt6 (s + 2 ^ b) = cnt6 s + 1 := by
  have h' : ∀ s : Nat, s < 64 → ∀ b : Nat, b < 6 → s.testBit b = false → cnt6 (s + 2 ^ b) = cnt6 s + 1 := by decide +kernel
  exact h' s hs b hb h
theorem cnt6_all (s : Nat) (hs : s < 64) : (∀ j, j < 6 → s.testBit j = true) ↔ cnt6 s = 6 := by
  have h' : ∀ s : Nat, s < 64 → ((∀ j, j < 6 → s.testBit j = true) ↔ cnt6 s = 6) := by decide +kernel
  exact h' s hs
theorem closed_next {p : List Int} {s b : Nat} (hs : s < 64) (hc : Closed p s) (hb : IsNext p s b) : Closed p (s + 2 ^ b) := by
  have ha := (bit_add s b hs hb.1 hb.2.1).2
  intro j hj hsj i hi hl
  rw [ha i hi]
  rw [ha j hj] at hsj
  unfold withH at hsj ⊢
  by_cases hjb : j = b
  · subst hjb
    have := next_bef hc hb i hi
    unfold bef at this
    rw [this, hl]; rfl
  · simp [hjb] at hsj
    rw [hc j hj hsj i hi hl]; rfl
end Go.Proofs.Ytnhcjbebfddcdaa
