/-
  The statements' own marks: numbers written through a slice, and whether they still stand.
-/
import Derived.Test.YtpipbkefelcmbaaDoorInts
import Derived.Test.YtpipbkefelcmbaaDoorCars
import Derived.Test.YtpipbkefelcmbaaDoorPlaces
import Derived.Laws.OwnMore
namespace Go.Proofs.YtpipbkefelcmbaaDoor
open Go.ChangeShapes Go.WideShapes Go.ChangeAt Go.RowKit

theorem grown_trans {w1 w2 w3 : World} {row : Option Nat} (h1 : w1.grownBy w2 row) (h2 : w2.grownBy w3 row) : w1.grownBy w3 row :=
  ⟨h2.os.trans h1.os, h2.tape.trans h1.tape, h2.output.trans h1.output, Nat.le_trans h1.size h2.size,
    fun k hk hne => (h2.block k (Nat.lt_of_lt_of_le hk h1.size) hne).trans (h1.block k hk hne)⟩
theorem grown_refl (w : World) (row : Option Nat) : w.grownBy w row := ⟨rfl, rfl, rfl, Nat.le_refl _, fun _ _ _ => rfl⟩
/-- Everything that the value v owns lies in blocks lo .. hi. -/
def Lies (v : Value) (lo hi : Nat) : Prop := ∀ q, v.ownBlock = some q → lo ≤ q ∧ q < hi
theorem OwnAt.lies {w : World} {base sz n : Nat} {e : TypeId} {v : Value} {rs : List (List Value)} (h : OwnAt w base e sz v n rs) : Lies v base w.heap.size := fun q hq => h.own.lt q hq
theorem OwnAt.grown {w w' : World} {base sz n lo hi lo' hi' : Nat} {e : TypeId} {v u : Value} {rs : List (List Value)} (h : OwnAt w base e sz v n rs) (hg : w.grownBy w' u.ownBlock) (hv : Lies v lo hi) (hu : Lies u lo' hi') (hd : hi ≤ lo' ∨ hi' ≤ lo) : OwnAt w' base e sz v n rs := by
  refine ⟨h.own.kept hg ?_, h.len, h.one⟩
  cases hb : v.ownBlock with
  | none => exact .inl rfl
  | some q =>
    right
    intro he
    have h1 := hv q hb
    have h2 := hu q he.symm
    omega
theorem Whole.grownN {w w' : World} {g lo hi : Nat} {e : TypeId} {cs : List Value} {u : Value} (h : Whole w g e cs) (hg : w.grownBy w' u.ownBlock) (hu : Lies u lo hi) (hd : g < lo) : Whole w' g e cs :=
  (hg.block g h.lt (fun hh => by have := hu g hh.symm; omega)).trans h
theorem below_grown {a w w' : World} {u : Value} {lo hi : Nat} (h : Below a.heap.size a w) (hg : w.grownBy w' u.ownBlock) (hu : Lies u lo hi) (hd : a.heap.size ≤ lo) : Below a.heap.size a w' :=
  h.grown hg h.size (fun q hq => Nat.le_trans hd (hu q hq).1)
theorem own_there {w : World} {base sz n g cap : Nat} {e : TypeId} {xs : List Value} (h : w.ownsRow base e sz (.slice (some ⟨g, 0, none⟩) n cap) n xs) {j : Nat} (hj : j < n * sz) : ∃ u, w.cell? ⟨g, j, none⟩ = some u := by
  have h1 := h.1
  obtain ⟨u, hu⟩ : ∃ u, xs[j]? = some u := ⟨_, List.getElem?_eq_getElem (by omega)⟩
  have := h.cells (g := g) rfl _ _ hu
  unfold Addr.add at this
  split at this
  · rename_i hz; subst hz; exact ⟨u, this⟩
  · exact ⟨u, by simpa using this⟩

/-- The call answers the list rs, in memory of its own. -/
def OwnR (w : World) (rs : List Int) (e : Ending) (w' : World) : Prop := ∃ A n c, e = .returned (.slice A n c) ∧ n = rs.length ∧ OwnAt w' w.heap.size 3 1 (.slice A n c) n (ic rs) ∧ Below w.heap.size w w'

def markL (k : Int) (n : Nat) : List Int := (List.range n).map fun i => k + (i : Nat)
theorem markL_get {k : Int} {n i : Nat} (h : i < n) : (markL k n)[i]? = some (k + (i : Int)) := by
  unfold markL; rw [List.getElem?_map, List.getElem?_range h]; rfl

end Go.Proofs.YtpipbkefelcmbaaDoor
