/-
  Plans (lists of lists of numbers): how they lie in memory; PlanAll and PlanLoad of the program and of the reference; the statements' own helpers on them.
-/
import Derived.Test.YtecjhomfoakaeaaInts
import Derived.Test.YtecjhomfoakaeaaSum
import Derived.Deep.RegionWith
import Derived.Deep.RegionHeld3
namespace Go.Proofs.Ytecjhomfoakaeaa
open Go.ChangeShapes Go.WideShapes Go.ChangeAt Go.RowKit

structure RowsAt (w : World) (A : Option Addr) (n : Nat) (rows : List (List Int)) : Prop where
  len : rows.length = n
  row : ∀ k r, rows[k]? = some r → ∃ b off A' c', A = some ⟨b, off, none⟩ ∧ b < w.heap.size ∧ w.cell? ⟨b, off + k, none⟩ = some (.slice A' r.length c') ∧ IntsAt w A' r.length r ∧ r.length ≤ 9223372036854775807
theorem RowsAt.below {w w' : World} {A : Option Addr} {n : Nat} {rows : List (List Int)} (h : RowsAt w A n rows) (hb : Below w.heap.size w w') : RowsAt w' A n rows :=
  ⟨h.len, fun k r hr => by
    obtain ⟨b, off, A', c', hA, hlt, hc, hi, hl⟩ := h.row k r hr
    exact ⟨b, off, A', c', hA, Nat.lt_of_lt_of_le hlt hb.size, (hb.cell (p := ⟨b, off + k, none⟩) hlt).trans hc, hi.below hb, hl⟩⟩
theorem RowsAt.get {w : World} {A : Option Addr} {n k : Nat} {rows : List (List Int)} (h : RowsAt w A n rows) (hk : k < n) :
    ∃ r b off A' c' l, Hid (rows[k]? = some r) ∧ Hid (r.length = l) ∧ A = some ⟨b, off, none⟩ ∧ b < w.heap.size ∧ w.cell? ⟨b, off + k, none⟩ = some (.slice A' l c') ∧ IntsAt w A' l r ∧ l ≤ 9223372036854775807 := by
  have hl := h.len
  obtain ⟨r, hr⟩ : ∃ r, rows[k]? = some r := ⟨_, List.getElem?_eq_getElem (by omega)⟩
  obtain ⟨b, off, A', c', hA, hlt, hc, hi, hm⟩ := h.row k r hr
  exact ⟨r, b, off, A', c', r.length, hr, rfl, hA, hlt, hc, hi, hm⟩
theorem Below.drewAll {B : Nat} {w : World} (n : Nat) : Below B w (w.drewN n) := below_drewN (Below.refl _ _) n


/-- What all cars of a plan get in an hour: as Go's int has it. -/
def atHour (h : Int) (r : List Int) : Int := if 0 ≤ h ∧ h < r.length then r.getD h.toNat 0 else 0
def loadW (h : Int) (rows : List (List Int)) : Int := rows.foldl (fun s r => if 0 ≤ h ∧ h < r.length then wrap64 (s + r.getD h.toNat 0) else s) 0
theorem loadW_next {h : Int} {rows : List (List Int)} {k : Nat} {r : List Int} (hr : Hid (rows[k]? = some r)) :
    loadW h (rows.take (k + 1)) = if 0 ≤ h ∧ h < r.length then wrap64 (loadW h (rows.take k) + r.getD h.toNat 0) else loadW h (rows.take k) := by
  rw [take_next hr]; simp [loadW]

end Go.Proofs.Ytecjhomfoakaeaa
