/-
  Plain law of StoreDo: the car stands at the gate, and without it the hall has the cars of before.
-/
import Derived.Test.YtdebjcempkgeaaaGreatDoorStoI
import Derived.Test.YtdebjcempkgeaaaGreatDoorHCars
namespace Go.Proofs.YtdebjcempkgeaaaGreatDoor
open Go.RowKit

theorem stoP_ok {W D n : Nat} {g : List Int} (S : Shp W D n) (hg : g.length = n) (ok : hallB W D g = true) (id : Int) : hallB W D (stoP W D n g id).1 = true ∧ (stoP W D n g id).1.length = n ∧ -1 ≤ (stoP W D n g id).2 ∧ (stoP W D n g id).2 ≤ 5 := by
  unfold stoP
  cases h : nearL W (freeN g n) with
  | none => exact ⟨ok, hg, by simp, by simp⟩
  | some f =>
    have N := near_free h
    have hd := dN_le S N.lt
    dsimp only
    by_cases hp : putB W D (hst W f g (dN W f)) id = true
    · rw [if_pos hp]
      refine ⟨?_, by simp [hst_len, hg], by dsimp only; omega, by dsimp only; omega⟩
      unfold putB at hp
      rw [Bool.and_eq_true] at hp
      exact hp.2
    · rw [if_neg hp]; exact ⟨ok, hg, by simp, by simp⟩
/-- A store that is done: a car more, a free cell less. -/
theorem stoP_yes {W D n : Nat} {g : List Int} {id : Int} (S : Shp W D n) (hg : g.length = n) (h : 0 ≤ (stoP W D n g id).2) :
    ∃ f, Near W n g f ∧ putB W D (hst W f g (dN W f)) id = true ∧ (stoP W D n g id).1 = (hst W f g (dN W f)).set 0 id ∧ (hst W f g (dN W f))[0]? = some 0 ∧ (hst W f g (dN W f)).Perm g ∧ 1 ≤ id ∧ (stoP W D n g id).2 = ((dN W f : Nat) : Int) := by
  unfold stoP at h ⊢
  cases hn : nearL W (freeN g n) with
  | none => rw [hn] at h; simp at h
  | some f =>
    rw [hn] at h
    dsimp only at h ⊢
    by_cases hp : putB W D (hst W f g (dN W f)) id = true
    · rw [if_pos hp]
      refine ⟨f, near_free hn, hp, rfl, hst_gate S hg (near_free hn), (hst_ok S hg (near_free hn) (dN W f) (Nat.le_refl _)).2.2, ?_, rfl⟩
      unfold putB at hp
      rw [Bool.and_eq_true, decide_eq_true_eq] at hp
      exact hp.1
    · rw [if_neg hp] at h; simp at h
theorem idx_head (x : Int) (t : List Int) : Lib.idxOf (x :: t) x = 0 := by simp [Lib.idxOf, Lib.idxFrom]
theorem srt_perm {xs ys : List Int} (h : xs.Perm ys) : srt xs = srt ys := by
  have s1 : ∀ l : List Int, (srt l).Pairwise (fun a b => decide (a ≤ b) = true) := fun l => by
    unfold srt
    exact List.pairwise_mergeSort (le := fun x y : Int => decide (x ≤ y)) (fun a b c h1 h2 => by simp at *; omega) (fun a b => by simp; omega) l
  have hp : (srt xs).Perm (srt ys) := ((List.mergeSort_perm xs _).trans h).trans (List.mergeSort_perm ys _).symm
  exact hp.eq_of_pairwise (fun a b _ _ h1 h2 => by simp at h1 h2; omega) (s1 xs) (s1 ys)
/-- What a store that is done leaves. -/
structure Gate (W D n : Nat) (g g' : List Int) (id : Int) : Prop where
  ok : hallB W D g' = true
  len : g'.length = n
  idx : Lib.idxOf g' id = 0
  id1 : 1 ≤ id
  back : hallB W D (g'.set 0 0) = true
  cars : srt (posL (g'.set 0 0)) = srt (posL g)
theorem stoP_gate {W D n : Nat} {g : List Int} {id : Int} (S : Shp W D n) (hg : g.length = n) (ok : hallB W D g = true) (h : 0 ≤ (stoP W D n g id).2) : Gate W D n g (stoP W D n g id).1 id := by
  obtain ⟨f, N, -, e, h0, hp, h1, -⟩ := stoP_yes S hg h
  obtain ⟨a, b, -⟩ := stoP_ok S hg ok id
  obtain ⟨t, ht, hs⟩ := gate_form h0
  have e1 : (stoP W D n g id).1 = id :: t := by rw [e, hs]
  have e2 : (stoP W D n g id).1.set 0 0 = hst W f g (dN W f) := by rw [e1, ht]; rfl
  exact ⟨a, b, by rw [e1]; exact idx_head _ _, h1, by rw [e2]; exact hst_hall S hg ok N (Nat.le_refl _), by rw [e2]; exact srt_perm (hp.filter _)⟩
end Go.Proofs.YtdebjcempkgeaaaGreatDoor
