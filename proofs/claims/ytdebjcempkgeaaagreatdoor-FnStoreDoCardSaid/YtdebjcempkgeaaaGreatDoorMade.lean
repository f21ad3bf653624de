/-
  A list of numbers just made: all zeros, in a block of its own.
-/
import Derived.Test.YtdebjcempkgeaaaGreatDoorInts
namespace Go.Proofs.YtdebjcempkgeaaaGreatDoor
open Go.ChangeShapes Go.WideShapes Go.ChangeAt Go.RowKit

theorem whole_of_own {w : World} {g n : Nat} {e : TypeId} {xs : List Value} (h : w.ownsRow g e 1 (.slice (some ⟨g, 0, none⟩) n n) n xs) : Whole w g e xs := by
  rcases h.2 with ⟨hv, _⟩ | ⟨g', cap, cur, hv, _, hg, _, _, hs, ht⟩
  · cases hv
  · injection hv with h1 _ h3
    injection h1 with h1
    injection h1 with h1
    subst h1; subst h3
    have : cur = xs.toArray := by
      rw [← ht, List.take_of_length_le (by simp; omega)]
    unfold Whole
    rw [hg, this]

theorem made_zeros (n : Nat) : (madeCells (Value.int IntKind.i64 0).cells (n * 1)).toList = (List.replicate n (0 : Int)).map (Value.int .i64) := by
  apply List.ext_getElem
  · simp [madeCells]
  · intro i h1 h2
    simp [madeCells, Value.cells, Nat.mod_one]
end Go.Proofs.YtdebjcempkgeaaaGreatDoor
