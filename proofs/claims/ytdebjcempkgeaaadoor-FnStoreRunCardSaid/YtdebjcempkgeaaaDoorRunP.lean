/-
  Plain law of StoreRun: each store takes one free cell and adds one car; cars that are good are stored as far as there are free cells.
-/
import Derived.Test.YtdebjcempkgeaaaDoorRunI
namespace Go.Proofs.YtdebjcempkgeaaaDoor
open Go.RowKit

theorem count_freeN {g : List Int} {n : Nat} (hg : g.length = n) : (freeN g n).length = g.count 0 := by
  have h := freeP_count g n (by omega)
  rw [List.take_of_length_le (by omega), freeP_map, List.length_map] at h
  exact h
theorem posL_perm {g g' : List Int} (h : g.Perm g') : (posL g).length = (posL g').length := (h.filter _).length_eq
/-- A store that is done: a car more, a free cell less. -/
theorem stoP_yes {W D n : Nat} {g : List Int} {id : Int} (S : Shp W D n) (hg : g.length = n) (h : 0 ≤ (stoP W D n g id).2) :
    ∃ f, Near W n g f ∧ putB W D (hst W f g (dN W f)) id = true ∧ (stoP W D n g id).1 = (hst W f g (dN W f)).set 0 id ∧ (hst W f g (dN W f))[0]? = some 0 ∧ (hst W f g (dN W f)).Perm g ∧ 1 ≤ id ∧ (stoP W D n g id).2 = ((dN W f : Nat) : Int) := by
  unfold stoP at h ⊢
  cases hn : nearL W (freeN g n) with
  | none => rw [hn] at h; simp at h
  | some f =>
    rw [hn] at h
    dsimp only at h ⊢
    by_cases hp : putB W D (hst W f g (dN W f)) id = true
    · rw [if_pos hp]
      refine ⟨f, near_free hn, hp, rfl, hst_gate S hg (near_free hn), (hst_ok S hg (near_free hn) (dN W f) (Nat.le_refl _)).2.2, ?_, rfl⟩
      unfold putB at hp
      rw [Bool.and_eq_true, decide_eq_true_eq] at hp
      exact hp.1
    · rw [if_neg hp] at h; simp at h
theorem stoP_step {W D n : Nat} {g : List Int} {id : Int} (S : Shp W D n) (hg : g.length = n) (h : 0 ≤ (stoP W D n g id).2) :
    (posL (stoP W D n g id).1).length = (posL g).length + 1 ∧ (stoP W D n g id).1.count 0 + 1 = g.count 0 ∧ ∀ x ∈ (stoP W D n g id).1, x = id ∨ x ∈ g := by
  obtain ⟨f, -, -, e, h0, hp, h1, -⟩ := stoP_yes S hg h
  rw [e]
  refine ⟨by rw [put_pos h0 h1, posL_perm hp], by rw [put_zero h0 h1, hp.count_eq], fun x hx => ?_⟩
  rcases put_mem h0 hx with h | h
  · exact .inl h
  · exact .inr (hp.mem_iff.1 h)
theorem stoP_good {W D n : Nat} {g : List Int} {id : Int} (S : Shp W D n) (hg : g.length = n) (ok : hallB W D g = true) (h1 : 1 ≤ id) (h2 : id ≤ 99) (h3 : id ∉ g) (h4 : 0 < g.count 0) : 0 ≤ (stoP W D n g id).2 := by
  unfold stoP
  cases hn : nearL W (freeN g n) with
  | none =>
    have := near_none hn
    have h5 := count_freeN hg
    rw [this] at h5
    simp at h5
    omega
  | some f =>
    have N := near_free hn
    have h0 := hst_gate S hg N
    have hp := (hst_ok S hg N (dN W f) (Nat.le_refl _)).2.2
    have hb : putB W D (hst W f g (dN W f)) id = true := by
      unfold putB
      rw [Bool.and_eq_true, decide_eq_true_eq]
      exact ⟨h1, put_ok (hst_hall S hg ok N (Nat.le_refl _)) h0 h1 h2 (fun hm => h3 (hp.mem_iff.1 hm))⟩
    dsimp only
    rw [if_pos hb]
    simp
theorem stk_step {W D n : Nat} {g ids : List Int} (S : Shp W D n) (hg : g.length = n) (ok : hallB W D g = true) : ∀ k, k ≤ ids.length → (∀ j, j < k → 0 ≤ stz W D n ids g j) →
    (posL (stk W D n ids g k)).length = (posL g).length + k ∧ (stk W D n ids g k).count 0 + k = g.count 0 ∧ ∀ x ∈ stk W D n ids g k, x ∈ ids.take k ∨ x ∈ g
  | 0, _, _ => ⟨rfl, rfl, fun _ h => .inr h⟩
  | k + 1, hk, hy => by
    obtain ⟨a, b, c⟩ := stk_step S hg ok k (by omega) (fun j hj => hy j (by omega))
    obtain ⟨a2, b2, c2⟩ := stoP_step S (stk_ok (ids := ids) S hg ok k).2 (hy k (by omega))
    show (posL (stoP W D n (stk W D n ids g k) (ids.getD k 0)).1).length = _ ∧ (stoP W D n (stk W D n ids g k) (ids.getD k 0)).1.count 0 + _ = _ ∧ ∀ x ∈ (stoP W D n (stk W D n ids g k) (ids.getD k 0)).1, _
    refine ⟨by omega, by omega, fun x hx => ?_⟩
    have hk2 : ids[k]? = some (ids.getD k 0) := by rw [List.getD_eq_getElem?_getD, List.getElem?_eq_getElem (by omega)]; rfl
    rcases c2 x hx with rfl | h
    · left; rw [List.take_add_one, hk2]; simp
    · rcases c x h with h | h
      · left; rw [List.take_add_one, List.mem_append]; exact .inl h
      · exact .inr h
/-- All new cars are good: ids of cars that are not there, each once. -/
def goodL (g ids : List Int) : Prop := ∀ k, k < ids.length → 1 ≤ ids.getD k 0 ∧ ids.getD k 0 ≤ 99 ∧ ids.getD k 0 ∉ g ∧ ids.getD k 0 ∉ ids.take k
theorem run_cars {W D n k : Nat} {g ids : List Int} (S : Shp W D n) (hg : g.length = n) (ok : hallB W D g = true) (h : RunAt W D n ids g k) : (posL (stk W D n ids g k)).length = (posL g).length + k :=
  (stk_step S hg ok k h.le h.yes).1
theorem run_good {W D n k : Nat} {g ids : List Int} (S : Shp W D n) (hg : g.length = n) (ok : hallB W D g = true) (h : RunAt W D n ids g k) (hgood : goodL g ids) : k = min ids.length (g.count 0) := by
  obtain ⟨a, b, c⟩ := stk_step S hg ok k h.le h.yes
  have hle := h.le
  by_cases hk : k < ids.length
  · have hno := h.no hk
    by_cases h0 : 0 < (stk W D n ids g k).count 0
    · exfalso
      obtain ⟨g1, g2, g3, g4⟩ := hgood k hk
      have hst := stk_ok (ids := ids) S hg ok k
      have := stoP_good (id := ids.getD k 0) S hst.2 hst.1 g1 g2 (fun hm => by rcases c _ hm with h | h; exact g4 h; exact g3 h) h0
      unfold stz at hno
      omega
    · omega
  · omega
end Go.Proofs.YtdebjcempkgeaaaDoor
