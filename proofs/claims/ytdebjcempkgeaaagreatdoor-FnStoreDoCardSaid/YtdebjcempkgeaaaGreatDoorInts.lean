/-
  The statements' own helpers on []int: toIntS (a copy), eqIntS (are two lists equal?).
-/
import Derived.Test.YtdebjcempkgeaaaGreatDoorLib
namespace Go.Proofs.YtdebjcempkgeaaaGreatDoor
open Go.ChangeShapes Go.WideShapes Go.ChangeAt Go.RowKit

theorem int_info : (Tryz.prog.info? 3).map (fun i => (i.zero, i.size, i.bytes)) = some (some (.int .i64 0), 1, 8) := by kernel_rfl

/-- The words of a list of numbers. -/
def ic (xs : List Int) : List (List Value) := xs.map fun x => [.int .i64 x]
theorem ic_flat (xs : List Int) : (ic xs).flatten = xs.map (Value.int .i64) := by
  induction xs with
  | nil => rfl
  | cons x xs ih => simpa [ic] using ih
theorem own_ints {w : World} {base : Nat} {v : Value} {n : Nat} {xs : List Int} (h : w.ownsRow base 3 1 v n (xs.map (Value.int .i64))) : OwnAt w base 3 1 v n (ic xs) :=
  ⟨by rw [ic_flat]; exact h, by have := h.1; simpa [ic] using this, by intro r hr; simp [ic] at hr; obtain ⟨x, _, rfl⟩ := hr; rfl⟩

end Go.Proofs.YtdebjcempkgeaaaGreatDoor
