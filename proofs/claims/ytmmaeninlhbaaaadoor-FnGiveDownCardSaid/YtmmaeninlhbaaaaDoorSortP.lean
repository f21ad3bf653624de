/-
  Inserting one car after the other, as a sort by exchanges does. No program is in sight here.
-/
import Derived.Test.YtmmaeninlhbaaaaDoorDownP
namespace Go.Proofs.YtmmaeninlhbaaaaDoor
open Go.ChangeShapes Go.WideShapes Go.ChangeAt Go.RowKit

theorem insD_mid {cs : List C4} {i : Nat} : ∀ {l1 l2 : List Nat}, (∀ y ∈ l1, ¬ ahead cs i y) → (∀ y ∈ l2, ahead cs i y) → insD cs i (l1 ++ l2) = l1 ++ i :: l2
  | [], [], _, _ => rfl
  | [], y :: l2, _, h => by
    show (if ahead cs i y then i :: y :: l2 else y :: insD cs i l2) = _
    rw [if_pos (h y (by simp))]; rfl
  | x :: l1, l2, h1, h2 => by
    show (if ahead cs i x then i :: x :: (l1 ++ l2) else x :: insD cs i (l1 ++ l2)) = _
    rw [if_neg (h1 x (by simp)), insD_mid (fun y hy => h1 y (by simp [hy])) h2]; rfl
/-- Where the last one stays ahead, all do. -/
theorem none_ahead {cs : List C4} {i y : Nat} {l : List Nat} (hp : (l ++ [y]).Pairwise (ahead cs)) (h : ¬ ahead cs i y) : ∀ z ∈ l ++ [y], ¬ ahead cs i z := by
  intro z hz ha
  rw [List.pairwise_append] at hp
  simp only [List.mem_append, List.mem_singleton] at hz
  rcases hz with hz | rfl
  · exact h (ahead_trans ha (hp.2.2 z hz y (by simp)))
  · exact h ha
/-- Of a later car and an earlier one, the later one comes first only if its sum is greater. -/
theorem ahead_later {cs : List C4} {i y : Nat} (h : y < i) : ahead cs i y ↔ szAt cs y < szAt cs i := by unfold ahead; omega
/-- In the middle of inserting car i: l1 are still to be compared, l2 have been passed. -/
structure Ins (cs : List C4) (i : Nat) (l1 l2 : List Nat) : Prop where
  row : downK cs i = l1 ++ l2
  pass : ∀ y ∈ l2, ahead cs i y
theorem Ins.start (cs : List C4) (i : Nat) : Ins cs i (downK cs i) [] := ⟨by simp, fun y h => by simp at h⟩
theorem Ins.step {cs : List C4} {i y : Nat} {l1 l2 : List Nat} (h : Ins cs i (l1 ++ [y]) l2) (ha : ahead cs i y) : Ins cs i l1 (y :: l2) :=
  ⟨by rw [h.row]; simp, fun z hz => by rcases List.mem_cons.1 hz with rfl | hz; exact ha; exact h.pass z hz⟩
theorem Ins.lt {cs : List C4} {i y : Nat} {l1 l2 : List Nat} (h : Ins cs i l1 l2) (hy : y ∈ l1) : y < i := by
  rw [← (downK_is cs i).all, h.row]; simp [hy]
theorem Ins.done {cs : List C4} {i : Nat} {l1 l2 : List Nat} (h : Ins cs i l1 l2) (hs : l1 = [] ∨ ∃ l y, l1 = l ++ [y] ∧ ¬ ahead cs i y) : downK cs (i + 1) = l1 ++ i :: l2 := by
  show insD cs i (downK cs i) = _
  rw [h.row]
  refine insD_mid ?_ h.pass
  rcases hs with rfl | ⟨l, y, rfl, hy⟩
  · intro y hy; simp at hy
  · have hp := (downK_is cs i).down
    rw [h.row, List.pairwise_append] at hp
    exact none_ahead hp.1 hy
theorem Ins.len {cs : List C4} {i : Nat} {l1 l2 : List Nat} (h : Ins cs i l1 l2) : l1.length + l2.length = i := by
  have := downK_len (downK_is cs i)
  rw [h.row] at this
  simpa using this
/-- The row while car i is inserted. -/
def rowI (n i : Nat) (l1 l2 : List Nat) : List Nat := l1 ++ i :: (l2 ++ List.range' (i + 1) (n - (i + 1)))
theorem rowI_len {n i : Nat} {l1 l2 : List Nat} (h : l1.length + l2.length = i) (hi : i < n) : (rowI n i l1 l2).length = n := by
  unfold rowI; simp; omega
theorem rowI_here {n i : Nat} {l1 l2 : List Nat} : (rowI n i l1 l2)[l1.length]? = some i := by unfold rowI; simp
theorem rowI_last {n i y : Nat} {l l2 : List Nat} : (rowI n i (l ++ [y]) l2)[l.length]? = some y := by unfold rowI; simp
theorem rowI_swap {n i y : Nat} {l l2 : List Nat} : ((rowI n i (l ++ [y]) l2).set (l.length + 1) y).set l.length i = rowI n i l (y :: l2) := by
  unfold rowI
  rw [List.append_assoc, List.set_append_right _ _ (by omega), List.set_append_right _ _ (by omega)]
  simp
theorem rowI_next {cs : List C4} {n i : Nat} (hi : i < n) : downK cs i ++ List.range' i (n - i) = rowI n i (downK cs i) [] := by
  unfold rowI
  rw [show n - i = (n - (i + 1)) + 1 by omega, List.range'_succ]
  simp
theorem rowI_done {cs : List C4} {n i : Nat} {l1 l2 : List Nat} (h : downK cs (i + 1) = l1 ++ i :: l2) : rowI n i l1 l2 = downK cs (i + 1) ++ List.range' (i + 1) (n - (i + 1)) := by
  unfold rowI; rw [h]; simp
theorem toI_set (xs : List Nat) (k y : Nat) : (toI xs).set k (y : Int) = toI (xs.set k y) := by unfold toI; rw [List.map_set]
theorem toI_get {xs : List Nat} {k y : Nat} (h : xs[k]? = some y) : (toI xs)[k]? = some (y : Int) := by unfold toI; rw [List.getElem?_map, h]; rfl
theorem toI_len (xs : List Nat) : (toI xs).length = xs.length := by simp [toI]
end Go.Proofs.YtmmaeninlhbaaaaDoor
