/-
  Plain laws of the hall that is drawn: ids that grow.
-/
import Derived.Test.YtdebjcempkgeaaaGreatDoorHoleP
namespace Go.Proofs.YtdebjcempkgeaaaGreatDoor
open Go.RowKit

theorem pos_set {z : Int} (hz : 0 < z) : ∀ {g : List Int} {k : Nat}, g[k]? = some 0 → (posL (g.set k z)).Perm (z :: posL g)
  | [], k, h => by simp at h
  | y :: t, 0, h => by
    have e : y = 0 := by simpa using h
    subst e
    unfold posL
    rw [List.set_cons_zero, List.filter_cons_of_pos (by simpa using hz), List.filter_cons_of_neg (by simp)]
  | y :: t, k + 1, h => by
    have ih := pos_set hz (g := t) (k := k) (by simpa using h)
    unfold posL at ih ⊢
    rw [List.set_cons_succ]
    by_cases hy : 0 < y
    · rw [List.filter_cons_of_pos (by simpa using hy), List.filter_cons_of_pos (by simpa using hy)]
      exact (ih.cons y).trans (List.Perm.swap z y _)
    · rw [List.filter_cons_of_neg (by simpa using hy), List.filter_cons_of_neg (by simpa using hy)]
      exact ih
/-- The first k cells have been drawn; the last id is given. -/
structure GenOk (g : List Int) (n k : Nat) (id : Int) : Prop where
  len : g.length = n
  rng : ∀ z ∈ g, 0 ≤ z ∧ z ≤ id
  nod : (posL g).Nodup
  rest : ∀ i, k ≤ i → i < n → g[i]? = some 0
  i0 : 0 ≤ id
  i5 : id ≤ 5 * k
theorem GenOk.start (n : Nat) : GenOk (List.replicate n 0) n 0 0 := by
  refine ⟨by simp, ?_, ?_, ?_, by omega, by omega⟩
  · intro z hz; rw [List.mem_replicate] at hz; omega
  · have : posL (List.replicate n 0) = [] := by unfold posL; rw [List.filter_eq_nil_iff]; intro z hz; rw [List.mem_replicate] at hz; simp [hz.2]
    rw [this]; exact List.nodup_nil
  · intro i _ h; simp [h]
theorem GenOk.skip {g : List Int} {n k : Nat} {id : Int} (h : GenOk g n k id) : GenOk g n (k + 1) id :=
  ⟨h.len, h.rng, h.nod, fun i h1 h2 => h.rest i (by omega) h2, h.i0, by have := h.i5; omega⟩
theorem GenOk.put {g : List Int} {n k : Nat} {id a : Int} (h : GenOk g n k id) (hk : k < n) (h1 : 1 ≤ a) (h5 : a ≤ 5) : GenOk (g.set k (id + a)) n (k + 1) (id + a) := by
  have i0 := h.i0
  have i5 := h.i5
  refine ⟨by simp [h.len], ?_, ?_, ?_, by omega, by omega⟩
  · intro z hz
    rcases List.mem_or_eq_of_mem_set hz with hz | rfl
    · have := h.rng z hz; omega
    · omega
  · rw [(pos_set (z := id + a) (by omega) (h.rest k (Nat.le_refl _) hk)).nodup_iff, List.nodup_cons]
    refine ⟨fun hm => ?_, h.nod⟩
    have := h.rng _ (List.mem_filter.1 hm).1
    omega
  · intro i h2 h3
    rw [List.getElem?_set_ne (by omega)]
    exact h.rest i (by omega) h3
theorem GenOk.hall {W D n k : Nat} {g : List Int} {id : Int} (h : GenOk g n k id) (S : Shp W D n) (hk : k ≤ n) : hallB W D g = true := by
  have hn := S.n12
  have i5 := h.i5
  rw [hallB_iff]
  refine ⟨⟨by have := S.w1; omega, by have := S.w2; omega, by have := S.d1; omega, by have := S.d2; omega, ?_⟩, ?_, h.nod⟩
  · rw [h.len, S.n]; push_cast; rfl
  · intro z hz
    have := h.rng z hz
    omega
end Go.Proofs.YtdebjcempkgeaaaGreatDoor
