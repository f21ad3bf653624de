/-
  The best list of places in plain words: of the lists that begin with some places, the one with the most cars that have a place, then with the least waste, the first one of several. No program is in sight here.
-/
import Derived.Test.YtmmaeninlhbaaaaDoorGive
import Derived.Test.YtmmaeninlhbaaaaDoorHas
namespace Go.Proofs.YtmmaeninlhbaaaaDoor
open Go.ChangeShapes Go.WideShapes Go.ChangeAt Go.RowKit

def manyL (g : List Int) : Int := ((g.filter fun z => decide (0 ≤ z)).length : Nat)
theorem manyL_snoc (g : List Int) (z : Int) : manyL (g ++ [z]) = manyL g + (if 0 ≤ z then 1 else 0) := by
  unfold manyL; rw [List.filter_append]
  by_cases h : 0 ≤ z <;> simp [h]
theorem manyL_range (g : List Int) : 0 ≤ manyL g ∧ manyL g ≤ g.length := by
  have := List.length_filter_le (fun z : Int => decide (0 ≤ z)) g
  unfold manyL; omega
theorem wasteK_append (cs : List C4) (ps : List P3) (g t : List Int) : ∀ k, k ≤ g.length → wasteK cs ps (g ++ t) k = wasteK cs ps g k
  | 0, _ => rfl
  | k + 1, h => by
    rw [wasteK_next, wasteK_next, wasteK_append cs ps g t k (by omega)]
    unfold wAt
    rw [List.getElem?_append_left (by omega)]
def wasteI (cs : List C4) (ps : List P3) (g : List Int) : Int := wasteK cs ps g g.length
theorem wasteI_none (cs : List C4) (ps : List P3) (g : List Int) : wasteI cs ps (g ++ [-1]) = wasteI cs ps g := by
  unfold wasteI
  rw [List.length_append, List.length_singleton, wasteK_next, wasteK_append cs ps g _ g.length (Nat.le_refl _), wAt_none (z := -1) (Lib.hid (by simp)) (by omega)]
  omega
theorem wasteI_some {cs : List C4} {ps : List P3} {g : List Int} {p : Nat} {x : C4} {y : P3} (hx : Hid (cs[g.length]? = some x)) (hy : Hid (ps[p]? = some y)) : wasteI cs ps (g ++ [(p : Int)]) = wasteI cs ps g + wOf x y := by
  unfold wasteI
  rw [List.length_append, List.length_singleton, wasteK_next, wasteK_append cs ps g _ g.length (Nat.le_refl _), wAt_some (z := (p : Int)) (Lib.hid (by simp)) rfl hx hy]

/-- The beginning of a valid list. -/
structure OkPre (cs : List C4) (ps : List P3) (g : List Int) : Prop where
  cars : carsB cs = true
  places : placesB ps = true
  len : g.length ≤ cs.length
  all : ∀ i, i < g.length → okAt cs ps g i = true
theorem okAt_append {cs : List C4} {ps : List P3} {g t : List Int} {i : Nat} (h : i < g.length) : okAt cs ps (g ++ t) i = okAt cs ps g i := by
  unfold okAt
  rw [List.getElem?_append_left h, List.take_append_of_le_length (by omega)]
theorem OkPre.snoc {cs : List C4} {ps : List P3} {g : List Int} {z : Int} {x : C4} (h : OkPre cs ps g) (hx : Hid (cs[g.length]? = some x)) (hz : okZ x ps g z = true) : OkPre cs ps (g ++ [z]) := by
  have hl := (List.getElem?_eq_some_iff.1 hx.out).1
  refine ⟨h.cars, h.places, by simp; omega, fun i hi => ?_⟩
  simp at hi
  by_cases he : i < g.length
  · rw [okAt_append he]; exact h.all i he
  · obtain rfl : i = g.length := by omega
    rw [okAt_get (z := z) (x := x) (Lib.hid (by simp)) hx]
    simpa using hz
theorem OkPre.none {cs : List C4} {ps : List P3} {g : List Int} {x : C4} (h : OkPre cs ps g) (hx : Hid (cs[g.length]? = some x)) : OkPre cs ps (g ++ [-1]) := h.snoc hx (okZ_none _ _ _)
theorem OkPre.full {cs : List C4} {ps : List P3} {g : List Int} (h : OkPre cs ps g) (hl : g.length = cs.length) : giveB cs ps g = true := giveB_all h.cars h.places hl h.all
theorem OkPre.wAt_range {cs : List C4} {ps : List P3} {g : List Int} (h : OkPre cs ps g) {k : Nat} (hk : k < g.length) : 0 ≤ wAt cs ps g k ∧ wAt cs ps g k ≤ 27 := by
  have hlen := h.len
  obtain ⟨z, hz⟩ : ∃ z, g[k]? = some z := ⟨_, List.getElem?_eq_getElem hk⟩
  obtain ⟨x, hx⟩ : ∃ x, cs[k]? = some x := ⟨_, List.getElem?_eq_getElem (by omega)⟩
  have HZ := Lib.hid hz
  have HX := Lib.hid hx
  by_cases h0 : 0 ≤ z
  · obtain ⟨p, y, hzp, hpl, hy, hf⟩ := okAt_place (h.all k hk) HZ HX h0
    have HY := Lib.hid hy
    rw [wAt_some HZ hzp HX HY]
    have h1 := car_range (carsB_get h.cars HX)
    have h2 := place_range (placesB_get h.places HY)
    have h3 := fitP_iff.1 hf
    unfold wOf; omega
  · rw [wAt_none HZ (by omega)]; omega
theorem OkPre.wasteK_range {cs : List C4} {ps : List P3} {g : List Int} (h : OkPre cs ps g) : ∀ k, k ≤ g.length → 0 ≤ wasteK cs ps g k ∧ wasteK cs ps g k ≤ 27 * k
  | 0, _ => by simp [wasteK]
  | k + 1, hk => by
    have h1 := OkPre.wasteK_range h k (by omega)
    have h2 := h.wAt_range (k := k) (by omega)
    simp only [wasteK]; omega
theorem OkPre.range {cs : List C4} {ps : List P3} {g : List Int} (h : OkPre cs ps g) : 0 ≤ wasteI cs ps g ∧ wasteI cs ps g ≤ 27 * g.length ∧ 0 ≤ manyL g ∧ manyL g ≤ g.length ∧ g.length ≤ 6 := by
  have h1 := h.wasteK_range g.length (Nat.le_refl _)
  have h2 := manyL_range g
  have h3 := carsB_len h.cars
  have h4 := h.len
  unfold wasteI; omega

/-- How good a list is. -/
def sc (cs : List C4) (ps : List P3) (g : List Int) : Int := 1000 * manyL g - wasteI cs ps g
def pick (cs : List C4) (ps : List P3) (o : Option (List Int)) (x : List Int) : List Int := match o with | none => x | some b => if sc cs ps b < sc cs ps x then x else b
def pickO (cs : List C4) (ps : List P3) (o q : Option (List Int)) : Option (List Int) := match q with | none => o | some x => some (pick cs ps o x)
theorem pick_assoc (cs : List C4) (ps : List P3) (o q : Option (List Int)) (x : List Int) : pick cs ps o (pick cs ps q x) = pick cs ps (pickO cs ps o q) x := by
  cases q with
  | none => rfl
  | some c =>
    cases o with
    | none => rfl
    | some b =>
      simp only [pick, pickO]
      by_cases h1 : sc cs ps c < sc cs ps x
      · by_cases h2 : sc cs ps b < sc cs ps c
        · simp only [h1, h2, if_true]; rw [if_pos (by omega)]
        · simp only [h1, h2, if_true, if_false]
      · by_cases h2 : sc cs ps b < sc cs ps c
        · simp only [h1, h2, if_true, if_false]
        · simp only [h1, h2, if_false]; rw [if_neg (by omega)]
theorem pick_mem {cs : List C4} {ps : List P3} {o : Option (List Int)} {x : List Int} {Q : List Int → Prop} (ho : ∀ b, o = some b → Q b) (hx : Q x) : Q (pick cs ps o x) := by
  cases o with
  | none => exact hx
  | some b =>
    by_cases h : sc cs ps b < sc cs ps x
    · rw [show pick cs ps (some b) x = x from if_pos h]; exact hx
    · rw [show pick cs ps (some b) x = b from if_neg h]; exact ho b rfl
/-- The best of the children that are there, one after the other. -/
def kids (cs : List C4) (ps : List P3) (child : Nat → List Int) (ok : Nat → Bool) : Nat → Option (List Int)
  | 0 => none
  | k + 1 => if ok k then some (pick cs ps (kids cs ps child ok k) (child k)) else kids cs ps child ok k
/-- May the next car have place p? -/
def candB (cs : List C4) (ps : List P3) (g : List Int) (p : Nat) : Bool := match cs[g.length]? with | some x => fitAt x ps p && !hasB g (p : Int) | none => false
theorem candB_get {cs : List C4} {ps : List P3} {g : List Int} {p : Nat} {x : C4} {y : P3} (hx : Hid (cs[g.length]? = some x)) (hy : Hid (ps[p]? = some y)) : candB cs ps g p = (fitP x y && !hasB g (p : Int)) := by
  have h1 := hx.out
  simp only [candB, h1, fitAt_get hy]
def bestL (cs : List C4) (ps : List P3) : Nat → List Int → List Int
  | 0, g => g
  | f + 1, g => pick cs ps (kids cs ps (fun p => bestL cs ps f (g ++ [(p : Int)])) (candB cs ps g) ps.length) (bestL cs ps f (g ++ [-1]))
def kidsL (cs : List C4) (ps : List P3) (f : Nat) (g : List Int) (k : Nat) : Option (List Int) := kids cs ps (fun p => bestL cs ps f (g ++ [(p : Int)])) (candB cs ps g) k
theorem bestL_next (cs : List C4) (ps : List P3) (f : Nat) (g : List Int) : bestL cs ps (f + 1) g = pick cs ps (kidsL cs ps f g ps.length) (bestL cs ps f (g ++ [-1])) := rfl
theorem kidsL_yes {cs : List C4} {ps : List P3} {f : Nat} {g : List Int} {k : Nat} (h : candB cs ps g k = true) : kidsL cs ps f g (k + 1) = some (pick cs ps (kidsL cs ps f g k) (bestL cs ps f (g ++ [(k : Int)]))) := by
  simp [kidsL, kids, h]
theorem kidsL_no {cs : List C4} {ps : List P3} {f : Nat} {g : List Int} {k : Nat} (h : candB cs ps g k = false) : kidsL cs ps f g (k + 1) = kidsL cs ps f g k := by
  simp [kidsL, kids, h]
theorem candB_ok {cs : List C4} {ps : List P3} {g : List Int} {p : Nat} (h : OkPre cs ps g) (hc : candB cs ps g p = true) : OkPre cs ps (g ++ [(p : Int)]) ∧ g.length < cs.length := by
  unfold candB at hc
  split at hc
  · rename_i x hx
    simp only [Bool.and_eq_true, Bool.not_eq_true'] at hc
    refine ⟨h.snoc (Lib.hid hx) ?_, (List.getElem?_eq_some_iff.1 hx).1⟩
    unfold okZ
    have h1 := hc.2
    unfold hasB at h1
    rw [h1, show ((p : Int)).toNat = p by omega, hc.1]
    simp
  · cases hc
/-- What the best list is like. -/
theorem bestL_ok {cs : List C4} {ps : List P3} : ∀ (f : Nat) (g : List Int), OkPre cs ps g → g.length + f = cs.length → OkPre cs ps (bestL cs ps f g) ∧ (bestL cs ps f g).length = cs.length
  | 0, g, h, hl => ⟨h, by simpa [bestL] using hl⟩
  | f + 1, g, h, hl => by
    obtain ⟨x, hx⟩ : ∃ x, cs[g.length]? = some x := ⟨_, List.getElem?_eq_getElem (by omega)⟩
    rw [bestL_next]
    have hk : ∀ k b, kidsL cs ps f g k = some b → OkPre cs ps b ∧ b.length = cs.length := by
      intro k
      induction k with
      | zero => intro b hb; cases hb
      | succ k ih =>
        intro b hb
        cases hc : candB cs ps g k
        · rw [kidsL_no hc] at hb; exact ih b hb
        · rw [kidsL_yes hc] at hb
          injection hb with hb
          subst hb
          exact pick_mem (Q := fun b => OkPre cs ps b ∧ b.length = cs.length) ih (bestL_ok f _ (candB_ok h hc).1 (by simp; omega))
    exact pick_mem (Q := fun b => OkPre cs ps b ∧ b.length = cs.length) (hk _) (bestL_ok f _ (h.none (Lib.hid hx)) (by simp; omega))
theorem kidsL_ok {cs : List C4} {ps : List P3} {f : Nat} {g : List Int} (h : OkPre cs ps g) (hl : g.length + (f + 1) = cs.length) : ∀ k b, kidsL cs ps f g k = some b → OkPre cs ps b ∧ b.length = cs.length := by
  intro k
  induction k with
  | zero => intro b hb; cases hb
  | succ k ih =>
    intro b hb
    cases hc : candB cs ps g k
    · rw [kidsL_no hc] at hb; exact ih b hb
    · rw [kidsL_yes hc] at hb
      injection hb with hb
      subst hb
      exact pick_mem (Q := fun b => OkPre cs ps b ∧ b.length = cs.length) ih (bestL_ok f _ (candB_ok h hc).1 (by simp; omega))
/-- Is list x better than list b, as the reference asks? -/
def betterB (cs : List C4) (ps : List P3) (x b : List Int) : Bool := if manyL x = manyL b then decide (wasteL cs ps x < wasteL cs ps b) else decide (manyL b < manyL x)
theorem betterB_sc {cs : List C4} {ps : List P3} {x b : List Int} (hx : OkPre cs ps x ∧ x.length = cs.length) (hb : OkPre cs ps b ∧ b.length = cs.length) : betterB cs ps x b = decide (sc cs ps b < sc cs ps x) := by
  have h1 := hx.1.range
  have h2 := hb.1.range
  have e1 : wasteL cs ps x = wasteI cs ps x := wasteL_yes (hx.1.full hx.2)
  have e2 : wasteL cs ps b = wasteI cs ps b := wasteL_yes (hb.1.full hb.2)
  unfold betterB sc
  rw [e1, e2]
  by_cases h : manyL x = manyL b
  · rw [if_pos h, h, Bool.eq_iff_iff]; simp only [decide_eq_true_eq]; omega
  · rw [if_neg h, Bool.eq_iff_iff]; simp only [decide_eq_true_eq]; omega
/-- The best list of all. -/
def bestAll (cs : List C4) (ps : List P3) : List Int := if carsB cs && placesB ps then bestL cs ps cs.length [] else []
theorem okPre_nil {cs : List C4} {ps : List P3} (h1 : carsB cs = true) (h2 : placesB ps = true) : OkPre cs ps [] := ⟨h1, h2, by simp, fun i h => by simp at h⟩
theorem bestAll_short (cs : List C4) (ps : List P3) : (bestAll cs ps).length ≤ 6 := by
  unfold bestAll
  split
  · rename_i h
    simp only [Bool.and_eq_true] at h
    rw [(bestL_ok cs.length [] (okPre_nil h.1 h.2) (by simp)).2]
    exact carsB_len h.1
  · simp
end Go.Proofs.YtmmaeninlhbaaaaDoor
