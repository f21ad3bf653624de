/-
  The memory of the program's giving car by car. No program is in sight here.
-/
import Derived.Test.YtmmaeninlhbaaaaDoorDownP
namespace Go.Proofs.YtmmaeninlhbaaaaDoor
open Go.ChangeShapes Go.WideShapes Go.ChangeAt Go.RowKit

/-- The row while the cars l have had their turn: the others still hold 0. -/
def rowG (n : Nat) (l : List Nat) (G : List Int) : List Int := (List.range n).map fun c => if c ∈ l then gM G c else 0
theorem rowG_nil (n : Nat) (G : List Int) : rowG n [] G = List.replicate n 0 := by
  unfold rowG
  refine List.ext_getElem? fun i => ?_
  by_cases h : i < n
  · simp [h]
  · simp [h]
theorem rowG_get {n : Nat} {l : List Nat} {G : List Int} {c : Nat} (h : c < n) : (rowG n l G)[c]? = some (if c ∈ l then gM G c else 0) := by
  unfold rowG; rw [List.getElem?_map, List.getElem?_range h]; rfl
theorem rowG_len (n : Nat) (l : List Nat) (G : List Int) : (rowG n l G).length = n := by simp [rowG]
theorem rowG_turn {n : Nat} {l : List Nat} {G : List Int} {c : Nat} (hc : c < n) (h : gM G c = -1) : (rowG n l G).set c (-1) = rowG n (l ++ [c]) G := by
  refine List.ext_getElem? fun i => ?_
  by_cases hi : i < n
  · rw [rowG_get hi]
    by_cases he : i = c
    · subst he
      rw [List.getElem?_set_self (by rw [rowG_len]; exact hi)]
      simp [h]
    · rw [List.getElem?_set_ne (by omega), rowG_get hi]
      simp [he]
  · rw [List.getElem?_eq_none (by rw [List.length_set, rowG_len]; omega), List.getElem?_eq_none (by rw [rowG_len]; omega)]
theorem rowG_place {n : Nat} {l : List Nat} {G : List Int} {c : Nat} {z : Int} (hc : c < n) (hG : G.length = n) (h : c ∈ l) : (rowG n l G).set c z = rowG n l (G.set c z) := by
  refine List.ext_getElem? fun i => ?_
  by_cases hi : i < n
  · rw [rowG_get hi, gM_set (by omega)]
    unfold upd
    by_cases he : i = c
    · subst he
      rw [List.getElem?_set_self (by rw [rowG_len]; exact hi)]
      simp [h]
    · rw [List.getElem?_set_ne (by omega), rowG_get hi]
      simp [he]
  · rw [List.getElem?_eq_none (by rw [List.length_set, rowG_len]; omega), List.getElem?_eq_none (by rw [rowG_len]; omega)]
theorem rowG_all {n : Nat} {l : List Nat} {G : List Int} (hG : G.length = n) (h : ∀ c, c < n → c ∈ l) : rowG n l G = G := by
  rw [list_eq_map hG]
  unfold rowG
  refine List.map_congr_left fun c hc => ?_
  rw [if_pos (h c (by simpa using hc)), ← list_eq_map hG]
/-- Which of the six places are taken? -/
def takenG (g : List Int) : List Value := [.bool (hasB g ((0 : Nat) : Int)), .bool (hasB g ((1 : Nat) : Int)), .bool (hasB g ((2 : Nat) : Int)), .bool (hasB g ((3 : Nat) : Int)), .bool (hasB g ((4 : Nat) : Int)), .bool (hasB g ((5 : Nat) : Int))]
theorem takenG_get {g : List Int} {p : Nat} (hp : p < 6) : (takenG g)[p]? = some (.bool (hasB g (p : Int))) := by
  have : p = 0 ∨ p = 1 ∨ p = 2 ∨ p = 3 ∨ p = 4 ∨ p = 5 := by omega
  rcases this with rfl | rfl | rfl | rfl | rfl | rfl <;> rfl
theorem hasB_place {g : List Int} {c p q : Nat} (hc : c < g.length) (h : gM g c = -1) : hasB (g.set c (p : Int)) (q : Int) = (hasB g (q : Int) || decide (q = p)) := by
  rw [Bool.eq_iff_iff, hasB_gM]
  simp only [List.length_set, Bool.or_eq_true, decide_eq_true_eq]
  rw [hasB_gM, gM_set hc]
  unfold upd
  constructor
  · rintro ⟨i, hi, e⟩
    by_cases hic : i = c
    · rw [if_pos hic] at e; exact .inr (by omega)
    · rw [if_neg hic] at e; exact .inl ⟨i, hi, e⟩
  · rintro (⟨i, hi, e⟩ | e)
    · refine ⟨i, hi, ?_⟩
      rw [if_neg]
      · exact e
      · rintro rfl; omega
    · exact ⟨c, hc, by rw [if_pos rfl]; omega⟩
theorem takenG_place {g : List Int} {c p : Nat} (hp : p < 6) (hc : c < g.length) (h : gM g c = -1) : (takenG g).set p (.bool true) = takenG (g.set c (p : Int)) := by
  have : p = 0 ∨ p = 1 ∨ p = 2 ∨ p = 3 ∨ p = 4 ∨ p = 5 := by omega
  rcases this with rfl | rfl | rfl | rfl | rfl | rfl <;> simp only [takenG, hasB_place hc h] <;> simp
theorem takenG_none (n : Nat) : takenG (List.replicate n (-1)) = [.bool false, .bool false, .bool false, .bool false, .bool false, .bool false] := by
  have h : ∀ p : Nat, hasB (List.replicate n (-1)) (p : Int) = false := fun p => by
    rw [hasB_not, List.mem_replicate]; omega
  simp only [takenG, h]
/-- The first place that a car may have. -/
theorem firstP_at {cs : List C4} {ps : List P3} {g : List Int} {c p : Nat} (hp : p < ps.length) (h : (adjC cs ps c p && !hasB g (p : Int)) = true) (hno : ∀ q, q < p → (adjC cs ps c q && !hasB g (q : Int)) = false) : firstP cs ps g c = some p := by
  unfold firstP
  rw [List.find?_eq_some_iff_getElem]
  refine ⟨h, p, by simpa using hp, by simp, fun j hj => ?_⟩
  simp only [List.getElem_range, Bool.not_eq_eq_eq_not, Bool.not_true]
  exact hno j hj
theorem firstP_no {cs : List C4} {ps : List P3} {g : List Int} {c : Nat} (hno : ∀ q, q < ps.length → (adjC cs ps c q && !hasB g (q : Int)) = false) : firstP cs ps g c = none := by
  unfold firstP
  rw [List.find?_eq_none]
  intro q hq
  rw [hno q (by simpa using hq)]
  simp
theorem stepD_some {cs : List C4} {ps : List P3} {g : List Int} {c p : Nat} (h : firstP cs ps g c = some p) : stepD cs ps g c = g.set c (p : Int) := by simp [stepD, h]
theorem stepD_none {cs : List C4} {ps : List P3} {g : List Int} {c : Nat} (h : firstP cs ps g c = none) : stepD cs ps g c = g := by simp [stepD, h]
/-- Behind the first k cars of the order. -/
def giveAt (cs : List C4) (ps : List P3) (k : Nat) : List Int := giveK cs ps ((downK cs cs.length).take k)
theorem giveAt_inv (cs : List C4) (ps : List P3) (k : Nat) : DownI cs ps ((downK cs cs.length).take k) (giveAt cs ps k) := by
  have hD := downK_is cs cs.length
  exact giveK_inv _ (fun c hc => (hD.all c).1 (List.mem_of_mem_take hc)) (hD.nodup.sublist (List.take_sublist _ _))
theorem giveAt_next {cs : List C4} {ps : List P3} {k d : Nat} (h : (downK cs cs.length)[k]? = some d) : giveAt cs ps (k + 1) = stepD cs ps (giveAt cs ps k) d := by
  unfold giveAt
  rw [List.take_add_one, h]
  exact giveK_snoc _ _ _ _
theorem giveAt_zero (cs : List C4) (ps : List P3) : giveAt cs ps 0 = List.replicate cs.length (-1) := by simp [giveAt, giveK]
theorem giveAt_all (cs : List C4) (ps : List P3) : giveAt cs ps cs.length = giveK cs ps (downK cs cs.length) := by
  unfold giveAt; rw [List.take_of_length_le (by rw [downK_len (downK_is cs cs.length)]; exact Nat.le_refl _)]
theorem down_new {cs : List C4} {n k d : Nat} (h : (downK cs n)[k]? = some d) : d ∉ (downK cs n).take k ∧ d < n := by
  have hD := downK_is cs n
  refine ⟨fun hm => ?_, (hD.all d).1 (List.mem_of_getElem? h)⟩
  obtain ⟨i, hi⟩ := List.getElem?_of_mem hm
  rw [List.getElem?_take] at hi
  split at hi
  · rename_i hik
    obtain ⟨h1, h2⟩ := List.getElem?_eq_some_iff.1 hi
    obtain ⟨h3, h4⟩ := List.getElem?_eq_some_iff.1 h
    have hp := List.pairwise_iff_getElem.1 hD.down i k h1 h3 hik
    rw [h2, h4] at hp
    exact ahead_not hp hp
  · cases hi
end Go.Proofs.YtmmaeninlhbaaaaDoor
