/-
  Halls in plain words: which lists are valid, a hole that moves to the gate, the nearest free cell, a car more at the gate.
-/
import Derived.Test.YtdebjcempkgeaaaGreatDoorFetchP
import Derived.Test.YtdebjcempkgeaaaGreatDoorHallD
namespace Go.Proofs.YtdebjcempkgeaaaGreatDoor
open Go.ChangeShapes Go.WideShapes Go.ChangeAt Go.RowKit

def posL (g : List Int) : List Int := g.filter fun z => decide (0 < z)
theorem cells_iff (g : List Int) : ∀ k, k ≤ g.length → ((∀ i, i < k → cellAt g i = true) ↔ (∀ z ∈ g.take k, 0 ≤ z ∧ z ≤ 99) ∧ (posL (g.take k)).Nodup)
  | 0, _ => by simp [posL]
  | k + 1, hk => by
    have ih := cells_iff g k (by omega)
    obtain ⟨z, hz⟩ : ∃ z, g[k]? = some z := ⟨_, List.getElem?_eq_getElem (by omega)⟩
    have hc : cellAt g k = cellZ (g.take k) z := cellAt_get hz
    have e1 : (∀ i, i < k + 1 → cellAt g i = true) ↔ (∀ i, i < k → cellAt g i = true) ∧ cellZ (g.take k) z = true := by
      constructor
      · intro h; exact ⟨fun i hi => h i (by omega), by rw [← hc]; exact h k (by omega)⟩
      · rintro ⟨h1, h2⟩; exact cellAt_next h1 (by rw [hc]; exact h2)
    rw [e1, ih, take_next (k := k) (x := z) hz]
    unfold cellZ posL
    rw [List.filter_append]
    by_cases h0 : 0 < z
    · have e2 : [z].filter (fun z => decide (0 < z)) = [z] := by simp [h0]
      rw [e2, List.nodup_append]
      simp only [h0, decide_true, Bool.true_and, Bool.and_eq_true, decide_eq_true_eq, Bool.not_eq_true', List.mem_append, List.mem_singleton]
      have e3 : (g.take k).contains z = false ↔ z ∉ g.take k := by simp
      rw [e3]
      constructor
      · rintro ⟨⟨a1, a2⟩, ⟨a3, a4⟩, a5⟩
        refine ⟨fun x hx => ?_, a2, by simp, fun a ha b hb => ?_⟩
        · rcases hx with hx | rfl
          · exact a1 x hx
          · exact ⟨a3, a4⟩
        · subst hb; rintro rfl; exact a5 (List.mem_filter.1 ha).1
      · rintro ⟨a1, a2, -, a3⟩
        refine ⟨⟨fun x hx => a1 x (.inl hx), a2⟩, a1 z (.inr rfl), fun hm => ?_⟩
        exact a3 z (List.mem_filter.2 ⟨hm, by simpa using h0⟩) z rfl rfl
    · have e2 : [z].filter (fun z => decide (0 < z)) = [] := by simp [h0]
      rw [e2]
      simp only [h0, decide_false, Bool.false_and, Bool.not_false, Bool.and_true, Bool.and_eq_true, decide_eq_true_eq, List.mem_append, List.mem_singleton, List.append_nil]
      constructor
      · rintro ⟨⟨a1, a2⟩, a3, a4⟩
        refine ⟨fun x hx => ?_, a2⟩
        rcases hx with hx | rfl
        · exact a1 x hx
        · exact ⟨a3, a4⟩
      · rintro ⟨a1, a2⟩
        exact ⟨⟨fun x hx => a1 x (.inl hx), a2⟩, a1 z (.inr rfl)⟩
theorem hallB_iff {wd dp : Int} {g : List Int} : hallB wd dp g = true ↔ (2 ≤ wd ∧ wd ≤ 4 ∧ 2 ≤ dp ∧ dp ≤ 3 ∧ (g.length : Int) = wd * dp) ∧ (∀ z ∈ g, 0 ≤ z ∧ z ≤ 99) ∧ (posL g).Nodup := by
  have h := cells_iff g g.length (Nat.le_refl _)
  rw [List.take_length] at h
  rw [← h]
  unfold hallB
  simp only [Bool.and_eq_true, decide_eq_true_eq, List.all_eq_true, List.mem_range]
  constructor
  · rintro ⟨⟨⟨⟨⟨a, b⟩, c⟩, d⟩, e⟩, f⟩; exact ⟨⟨a, b, c, d, e⟩, f⟩
  · rintro ⟨⟨a, b, c, d, e⟩, f⟩; exact ⟨⟨⟨⟨⟨a, b⟩, c⟩, d⟩, e⟩, f⟩
theorem hallB_perm {wd dp : Int} {g g' : List Int} (hp : g.Perm g') (h : hallB wd dp g = true) : hallB wd dp g' = true := by
  rw [hallB_iff] at h ⊢
  obtain ⟨a, b, c⟩ := h
  exact ⟨by rw [← hp.length_eq]; exact a, fun z hz => b z (hp.mem_iff.2 hz), (hp.filter _).nodup_iff.1 c⟩
/-- A car more in a hall whose gate is free. -/
theorem gate_form {g : List Int} (h : g[0]? = some 0) : ∃ t, g = 0 :: t ∧ ∀ id : Int, g.set 0 id = id :: t := by
  cases g with
  | nil => simp at h
  | cons a t => simp at h; subst h; exact ⟨t, rfl, fun _ => rfl⟩
theorem put_ok {wd dp : Int} {g : List Int} {id : Int} (h : hallB wd dp g = true) (h0 : g[0]? = some 0) (h1 : 1 ≤ id) (h2 : id ≤ 99) (h3 : id ∉ g) : hallB wd dp (g.set 0 id) = true := by
  obtain ⟨t, rfl, e⟩ := gate_form h0
  rw [e]
  rw [hallB_iff] at h ⊢
  obtain ⟨a, b, c⟩ := h
  refine ⟨by simpa using a, fun z hz => ?_, ?_⟩
  · rcases List.mem_cons.1 hz with rfl | hz
    · omega
    · exact b z (by simp [hz])
  · have hp : 0 < id := by omega
    have e1 : posL (id :: t) = id :: posL t := by unfold posL; rw [List.filter_cons_of_pos (by simpa using hp)]
    have e2 : posL (0 :: t) = posL t := by unfold posL; rw [List.filter_cons_of_neg (by simp)]
    rw [e1, List.nodup_cons]
    rw [e2] at c
    refine ⟨fun hm => h3 ?_, c⟩
    exact List.mem_cons_of_mem _ (List.mem_filter.1 hm).1
theorem put_pos {g : List Int} {id : Int} (h0 : g[0]? = some 0) (h1 : 1 ≤ id) : (posL (g.set 0 id)).length = (posL g).length + 1 := by
  obtain ⟨t, rfl, e⟩ := gate_form h0
  have hp : 0 < id := by omega
  have e1 : posL (id :: t) = id :: posL t := by unfold posL; rw [List.filter_cons_of_pos (by simpa using hp)]
  have e2 : posL (0 :: t) = posL t := by unfold posL; rw [List.filter_cons_of_neg (by simp)]
  rw [e, e1, e2]; rfl
theorem put_zero {g : List Int} {id : Int} (h0 : g[0]? = some 0) (h1 : 1 ≤ id) : (g.set 0 id).count 0 + 1 = g.count 0 := by
  obtain ⟨t, rfl, e⟩ := gate_form h0
  rw [e, List.count_cons_self, List.count_cons_of_ne (by omega)]
theorem put_mem {g : List Int} {id x : Int} (h0 : g[0]? = some 0) (hx : x ∈ g.set 0 id) : x = id ∨ x ∈ g := by
  obtain ⟨t, rfl, e⟩ := gate_form h0
  rw [e] at hx
  rcases List.mem_cons.1 hx with h | h
  · exact .inl h
  · exact .inr (by simp [h])
theorem freeP_count (g : List Int) : ∀ k, k ≤ g.length → (freeP g k).length = (g.take k).count 0
  | 0, _ => by simp [freeP]
  | k + 1, hk => by
    have ih := freeP_count g k (by omega)
    obtain ⟨z, hz⟩ : ∃ z, g[k]? = some z := ⟨_, List.getElem?_eq_getElem (by omega)⟩
    have hz' : Hid (g[k]? = some z) := Lib.hid hz
    rw [take_next hz', List.count_append]
    by_cases h0 : z = 0
    · rw [freeP_yes hz' h0, List.length_append, ih, h0]; simp
    · rw [freeP_no hz' h0, ih]; simp [h0]
theorem freeP_mem {g : List Int} {k : Nat} {x : Int} (h : x ∈ freeP g k) : ∃ j : Nat, x = j ∧ j < k ∧ g[j]? = some 0 := by
  unfold freeP at h
  obtain ⟨j, hj, rfl⟩ := List.mem_map.1 h
  obtain ⟨h1, h2⟩ := List.mem_filter.1 hj
  exact ⟨j, rfl, List.mem_range.1 h1, by simpa using h2⟩

/-- The free cells, as cells. -/
def freeN (g : List Int) (k : Nat) : List Nat := (List.range k).filter fun j => g[j]? == some 0
theorem freeP_map (g : List Int) (k : Nat) : freeP g k = (freeN g k).map fun (j : Nat) => (j : Int) := rfl
theorem freeN_mem {g : List Int} {k j : Nat} : j ∈ freeN g k ↔ j < k ∧ g[j]? = some 0 := by
  unfold freeN; simp
/-- The nearest of some cells, the first of several. -/
def nearF (W : Nat) (o : Option Nat) (f : Nat) : Option Nat := match o with | none => some f | some b => if dN W f < dN W b then some f else some b
def nearL (W : Nat) (l : List Nat) : Option Nat := l.foldl (nearF W) none
theorem nearL_next {W k f : Nat} {l : List Nat} (h : l[k]? = some f) : nearL W (l.take (k + 1)) = nearF W (nearL W (l.take k)) f := by
  unfold nearL; rw [List.take_add_one, h]; simp
theorem nearL_some {W : Nat} (l : List Nat) : ∀ k, k ≤ l.length → (nearL W (l.take k) = none ∧ k = 0) ∨ ∃ f, nearL W (l.take k) = some f ∧ f ∈ l ∧ ∀ x ∈ l.take k, dN W f ≤ dN W x
  | 0, _ => .inl ⟨rfl, rfl⟩
  | k + 1, hk => by
    obtain ⟨x, hx⟩ : ∃ x, l[k]? = some x := ⟨_, List.getElem?_eq_getElem (by omega)⟩
    have hxl := List.mem_of_getElem? hx
    have htn : l.take (k + 1) = l.take k ++ [x] := by rw [List.take_add_one, hx]; rfl
    right
    rw [nearL_next hx]
    rcases nearL_some (W := W) l k (by omega) with ⟨h1, h2⟩ | ⟨f, h1, h2, h3⟩
    · rw [h1]
      refine ⟨x, rfl, hxl, fun y hy => ?_⟩
      rw [htn, h2] at hy
      simp at hy; subst hy; exact Nat.le_refl _
    · rw [h1]
      show ∃ f', (if dN W x < dN W f then some x else some f) = some f' ∧ _
      by_cases hd : dN W x < dN W f
      · rw [if_pos hd]
        refine ⟨x, rfl, hxl, fun y hy => ?_⟩
        rw [htn] at hy
        rcases List.mem_append.1 hy with hy | hy
        · have := h3 y hy; omega
        · simp at hy; subst hy; exact Nat.le_refl _
      · rw [if_neg hd]
        refine ⟨f, rfl, h2, fun y hy => ?_⟩
        rw [htn] at hy
        rcases List.mem_append.1 hy with hy | hy
        · exact h3 y hy
        · simp at hy; subst hy; omega

/-- The car of b slides into the free cell a. -/
def mv (g : List Int) (a b : Nat) : List Int := (g.set a (g.getD b 0)).set b 0
theorem mv_perm {g : List Int} {a b : Nat} {z : Int} (ha : g[a]? = some 0) (hb : g[b]? = some z) : (mv g a b).Perm g := by
  have hal := (List.getElem?_eq_some_iff.1 ha).1
  have hbl := (List.getElem?_eq_some_iff.1 hb).1
  have h : ((g.set a g[b]).set b g[a]).Perm g := List.set_set_perm hal hbl
  have e1 : g[a] = 0 := (List.getElem?_eq_some_iff.1 ha).2
  have e2 : g[b] = g.getD b 0 := by simp [List.getD_eq_getElem?_getD, List.getElem?_eq_getElem hbl]
  rw [e1, e2] at h
  exact h
/-- The hall after i slides along the way from f. -/
def hst (W f : Nat) (g : List Int) : Nat → List Int
  | 0 => g
  | i + 1 => mv (hst W f g i) (pcN W f i) (pcN W f (i + 1))
theorem hst_len (W f : Nat) (g : List Int) : ∀ i, (hst W f g i).length = g.length
  | 0 => rfl
  | i + 1 => by show (mv _ _ _).length = _; unfold mv; simp [hst_len W f g i]
/-- f is a nearest free cell of the hall. -/
structure Near (W n : Nat) (g : List Int) (f : Nat) : Prop where
  lt : f < n
  free : g[f]? = some 0
  low : ∀ x, x < n → g[x]? = some 0 → dN W f ≤ dN W x
theorem hst_ok {W D n f : Nat} {g : List Int} (S : Shp W D n) (hg : g.length = n) (N : Near W n g f) : ∀ i, i ≤ dN W f → (hst W f g i)[pcN W f i]? = some 0 ∧ (∀ c, c < n → dN W c + i < dN W f → (hst W f g i)[c]? = g[c]?) ∧ (hst W f g i).Perm g
  | 0, _ => ⟨N.free, fun _ _ _ => rfl, List.Perm.refl _⟩
  | i + 1, hi => by
    obtain ⟨h1, h2, h3⟩ := hst_ok S hg N i (by omega)
    obtain ⟨a1, a2⟩ := pcN_ok S N.lt i (by omega)
    obtain ⟨b1, b2⟩ := pcN_ok S N.lt (i + 1) hi
    have hne : pcN W f i ≠ pcN W f (i + 1) := by intro h; rw [h] at a2; omega
    have hz := h2 (pcN W f (i + 1)) b1 (by omega)
    obtain ⟨z, hz'⟩ : ∃ z, g[pcN W f (i + 1)]? = some z := ⟨_, List.getElem?_eq_getElem (by rw [hg]; exact b1)⟩
    rw [hz'] at hz
    refine ⟨?_, fun c hc hd => ?_, (mv_perm h1 hz).trans h3⟩
    · show (mv _ _ _)[_]? = _
      unfold mv
      rw [List.getElem?_set_self (by simp; rw [hst_len, hg]; exact b1)]
    · show (mv _ _ _)[_]? = _
      unfold mv
      have c1 : pcN W f i ≠ c := by intro h; subst h; omega
      have c2 : pcN W f (i + 1) ≠ c := by intro h; subst h; omega
      rw [List.getElem?_set_ne c2, List.getElem?_set_ne c1]
      exact h2 c hc (by omega)
/-- At each step there is a car in the next cell. -/
theorem hst_car {W D n f i : Nat} {g : List Int} (S : Shp W D n) (hg : g.length = n) (N : Near W n g f) (hi : i < dN W f) : ∃ z : Int, (hst W f g i)[pcN W f (i + 1)]? = some z ∧ z ≠ 0 ∧ g[pcN W f (i + 1)]? = some z := by
  obtain ⟨h1, h2, h3⟩ := hst_ok S hg N i (by omega)
  obtain ⟨b1, b2⟩ := pcN_ok S N.lt (i + 1) (by omega)
  obtain ⟨z, hz'⟩ : ∃ z, g[pcN W f (i + 1)]? = some z := ⟨_, List.getElem?_eq_getElem (by rw [hg]; exact b1)⟩
  refine ⟨z, by rw [h2 _ b1 (by omega)]; exact hz', fun h => ?_, hz'⟩
  subst h
  have := N.low _ b1 hz'
  omega
theorem near_free {W n : Nat} {g : List Int} {f : Nat} (h : nearL W (freeN g n) = some f) : Near W n g f := by
  have h1 := nearL_some (W := W) (freeN g n) (freeN g n).length (Nat.le_refl _)
  rw [List.take_length] at h1
  rcases h1 with ⟨h1, -⟩ | ⟨f', h1, h2, h3⟩
  · rw [h1] at h; cases h
  · rw [h1] at h; injection h with h; subst h
    obtain ⟨a, b⟩ := freeN_mem.1 h2
    exact ⟨a, b, fun x hx h0 => h3 x (freeN_mem.2 ⟨hx, h0⟩)⟩
theorem near_none {W n : Nat} {g : List Int} (h : nearL W (freeN g n) = none) : freeN g n = [] := by
  have h1 := nearL_some (W := W) (freeN g n) (freeN g n).length (Nat.le_refl _)
  rw [List.take_length] at h1
  rcases h1 with ⟨-, h1⟩ | ⟨f', h1, -⟩
  · exact List.length_eq_zero_iff.1 h1
  · rw [h1] at h; cases h
end Go.Proofs.YtdebjcempkgeaaaGreatDoor
