/-
  The best list is a best one: no valid list has more cars with a place, and none with as many wastes less. No program is in sight here.
-/
import Derived.Test.YtmmaeninlhbaaaaDoorBestP
namespace Go.Proofs.YtmmaeninlhbaaaaDoor
open Go.ChangeShapes Go.WideShapes Go.ChangeAt Go.RowKit

theorem sc_right (cs : List C4) (ps : List P3) (o : Option (List Int)) (x : List Int) : sc cs ps x ≤ sc cs ps (pick cs ps o x) := by
  cases o with
  | none => exact Int.le_refl _
  | some b => simp only [pick]; split <;> omega
theorem sc_left {cs : List C4} {ps : List P3} {o : Option (List Int)} {b x : List Int} (h : o = some b) : sc cs ps b ≤ sc cs ps (pick cs ps o x) := by
  subst h; simp only [pick]; split <;> omega
theorem kidsL_up {cs : List C4} {ps : List P3} {f : Nat} {g : List Int} {k : Nat} {s : Int} (h : ∃ b, kidsL cs ps f g k = some b ∧ s ≤ sc cs ps b) : ∀ j, ∃ b, kidsL cs ps f g (k + j) = some b ∧ s ≤ sc cs ps b
  | 0 => h
  | j + 1 => by
    obtain ⟨b, hb, hs⟩ := kidsL_up h j
    cases hc : candB cs ps g (k + j)
    · exact ⟨b, by rw [← Nat.add_assoc, kidsL_no hc]; exact hb, hs⟩
    · exact ⟨_, by rw [← Nat.add_assoc, kidsL_yes hc], Int.le_trans hs (sc_left hb)⟩
theorem OkPre.cut {cs : List C4} {ps : List P3} {g t : List Int} (h : OkPre cs ps (g ++ t)) : OkPre cs ps g :=
  ⟨h.cars, h.places, by have := h.len; simp at this; omega, fun i hi => by rw [← okAt_append (t := t) hi]; exact h.all i (by simp; omega)⟩
theorem fitAt_lt {x : C4} {ps : List P3} {p : Nat} (h : fitAt x ps p = true) : p < ps.length := by
  unfold fitAt at h
  split at h
  · rename_i y hy; exact (List.getElem?_eq_some_iff.1 hy).1
  · cases h
theorem bestL_max {cs : List C4} {ps : List P3} : ∀ (f : Nat) (g t : List Int), OkPre cs ps (g ++ t) → t.length = f → g.length + f = cs.length → sc cs ps (g ++ t) ≤ sc cs ps (bestL cs ps f g)
  | 0, g, t, _, ht, _ => by
    obtain rfl := List.length_eq_zero_iff.1 ht
    simp [bestL]
  | f + 1, g, [], _, ht, _ => by simp at ht
  | f + 1, g, z :: t, h, ht, hl => by
    have e : g ++ z :: t = (g ++ [z]) ++ t := by simp
    rw [e] at h ⊢
    have ih := bestL_max f (g ++ [z]) t h (by simpa using ht) (by simp; omega)
    have h1 := h.cut
    obtain ⟨x, hx⟩ : ∃ x, cs[g.length]? = some x := ⟨_, List.getElem?_eq_getElem (by omega)⟩
    have hz := h1.all g.length (by simp)
    rw [okAt_get (z := z) (x := x) (Lib.hid (by simp)) (Lib.hid hx)] at hz
    simp only [List.take_left', okZ, Bool.or_eq_true, Bool.and_eq_true, decide_eq_true_eq, Bool.not_eq_true'] at hz
    rw [bestL_next]
    rcases hz with rfl | ⟨⟨h0, hf⟩, hc⟩
    · exact Int.le_trans ih (sc_right _ _ _ _)
    · obtain ⟨p, rfl⟩ : ∃ p : Nat, z = p := ⟨z.toNat, by omega⟩
      have hp := fitAt_lt hf
      rw [show ((p : Int)).toNat = p by omega] at hf hp
      have hcand : candB cs ps g p = true := by
        simp only [candB, hx, hf, hasB, hc]; rfl
      obtain ⟨b, hb, hs⟩ := kidsL_up (k := p + 1) ⟨_, kidsL_yes (f := f) hcand, Int.le_trans ih (sc_right _ _ _ _)⟩ (ps.length - (p + 1))
      rw [show p + 1 + (ps.length - (p + 1)) = ps.length by omega] at hb
      exact Int.le_trans hs (sc_left hb)
theorem bestAll_yes {cs : List C4} {ps : List P3} (h1 : carsB cs = true) (h2 : placesB ps = true) : bestAll cs ps = bestL cs ps cs.length [] := by simp [bestAll, h1, h2]
theorem bestAll_ok {cs : List C4} {ps : List P3} (h1 : carsB cs = true) (h2 : placesB ps = true) : OkPre cs ps (bestAll cs ps) ∧ (bestAll cs ps).length = cs.length := by
  rw [bestAll_yes h1 h2]; exact bestL_ok _ _ (okPre_nil h1 h2) (by simp)
theorem giveB_pre {cs : List C4} {ps : List P3} {g : List Int} (h : giveB cs ps g = true) : OkPre cs ps g := by
  obtain ⟨h1, h2, h3, h4⟩ := giveB_parts h
  exact ⟨h1, h2, by omega, h4⟩
theorem bestAll_giveB {cs : List C4} {ps : List P3} (h1 : carsB cs = true) (h2 : placesB ps = true) : giveB cs ps (bestAll cs ps) = true := (bestAll_ok h1 h2).1.full (bestAll_ok h1 h2).2
theorem bestAll_sc {cs : List C4} {ps : List P3} {g : List Int} (h : giveB cs ps g = true) : sc cs ps g ≤ sc cs ps (bestAll cs ps) := by
  have hp := giveB_pre h
  obtain ⟨h1, h2, h3, h4⟩ := giveB_parts h
  rw [bestAll_yes h1 h2]
  exact bestL_max cs.length [] g hp h3 (by simp)
theorem wasteL_I {cs : List C4} {ps : List P3} {g : List Int} (h : giveB cs ps g = true) : wasteL cs ps g = wasteI cs ps g := wasteL_yes h
/-- As many cars as at most. -/
theorem bestAll_many {cs : List C4} {ps : List P3} {g : List Int} (h : giveB cs ps g = true) : manyL g ≤ manyL (bestAll cs ps) := by
  have h0 := bestAll_sc h
  obtain ⟨h1, h2, _, _⟩ := giveB_parts h
  have r1 := (giveB_pre h).range
  have r2 := (bestAll_ok h1 h2).1.range
  unfold sc at h0
  omega
theorem bestAll_waste {cs : List C4} {ps : List P3} {g : List Int} (h : giveB cs ps g = true) (hm : manyL (bestAll cs ps) ≤ manyL g) : wasteL cs ps (bestAll cs ps) ≤ wasteL cs ps g := by
  have h0 := bestAll_sc h
  have h3 := bestAll_many h
  obtain ⟨h1, h2, _, _⟩ := giveB_parts h
  rw [wasteL_I h, wasteL_I (bestAll_giveB h1 h2)]
  unfold sc at h0
  have : manyL g = manyL (bestAll cs ps) := by omega
  rw [this] at h0
  omega
/-- With one car given none a list is valid, and wastes no more. -/
theorem okAt_setNone {cs : List C4} {ps : List P3} {g : List Int} {k i : Nat} (h : okAt cs ps g i = true) (hi : i < g.length) : okAt cs ps (g.set k (-1)) i = true := by
  obtain ⟨z, hz⟩ : ∃ z, g[i]? = some z := ⟨_, List.getElem?_eq_getElem hi⟩
  unfold okAt at h ⊢
  rw [hz] at h
  cases hx : cs[i]? with
  | none => rw [hx] at h; cases h
  | some x =>
    rw [hx] at h
    simp only at h
    by_cases hki : k = i
    · subst hki
      have e : (g.set k (-1))[k]? = some (-1) := by simp [hi]
      rw [e]
      exact okZ_none _ _ _
    · have e : (g.set k (-1))[i]? = some z := by rw [List.getElem?_set_ne hki]; exact hz
      rw [e]
      simp only
      unfold okZ at h ⊢
      simp only [Bool.or_eq_true, Bool.and_eq_true, decide_eq_true_eq, Bool.not_eq_true'] at h ⊢
      rcases h with h | ⟨⟨h0, hf⟩, hc⟩
      · exact .inl h
      · refine .inr ⟨⟨h0, hf⟩, ?_⟩
        rw [List.take_set]
        rw [List.contains_eq_mem, decide_eq_false_iff_not] at hc ⊢
        intro hm
        rcases List.mem_or_eq_of_mem_set hm with hm | hm
        · exact hc hm
        · omega
theorem giveB_setNone {cs : List C4} {ps : List P3} {g : List Int} (h : giveB cs ps g = true) (k : Nat) : giveB cs ps (g.set k (-1)) = true := by
  obtain ⟨h1, h2, h3, h4⟩ := giveB_parts h
  refine giveB_all h1 h2 (by simpa using h3) fun i hi => ?_
  simp at hi
  exact okAt_setNone (h4 i hi) hi
theorem wasteK_setNone {cs : List C4} {ps : List P3} {g : List Int} (h : giveB cs ps g = true) (k : Nat) : ∀ i, i ≤ g.length → wasteK cs ps (g.set k (-1)) i ≤ wasteK cs ps g i
  | 0, _ => Int.le_refl _
  | i + 1, hi => by
    have ih := wasteK_setNone h k i (by omega)
    have hw := wAt_range h (k := i) (by omega)
    rw [wasteK_next, wasteK_next]
    by_cases hki : k = i
    · subst hki
      have e : (g.set k (-1))[k]? = some (-1) := by rw [List.getElem?_set_self (by omega)]
      rw [wAt_none (g := g.set k (-1)) (z := -1) (Lib.hid e) (by omega)]
      omega
    · have e : wAt cs ps (g.set k (-1)) i = wAt cs ps g i := by unfold wAt; rw [List.getElem?_set_ne hki]
      omega
theorem wasteL_setNone {cs : List C4} {ps : List P3} {g : List Int} (h : giveB cs ps g = true) (k : Nat) : wasteL cs ps (g.set k (-1)) ≤ wasteL cs ps g := by
  rw [wasteL_yes h, wasteL_yes (giveB_setNone h k)]
  simpa using wasteK_setNone h k g.length (Nat.le_refl _)
end Go.Proofs.YtmmaeninlhbaaaaDoor
