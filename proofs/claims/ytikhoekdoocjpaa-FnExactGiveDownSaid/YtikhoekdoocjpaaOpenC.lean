/-
  Lists of cars and of places as arguments of a statement.
-/
import Derived.Test.YtikhoekdoocjpaaOpen
import Derived.Test.YtikhoekdoocjpaaCars
import Derived.Test.YtikhoekdoocjpaaPlaces
namespace Go.Proofs.Ytikhoekdoocjpaa
open Go.ChangeShapes Go.WideShapes Go.ChangeAt Go.RowKit

section
variable {H : Type} {enc : TypeId × Value → H} {P : Program} {w : World} {base : Nat} {spare : Nat → Bool} {held : Bool}
theorem cc_of : ∀ (rs : List (List Int)), (∀ r ∈ rs, r.length = 4) → ∃ ns : List C4, cc ns = rs.map fun r => r.map (Value.int .i64)
  | [], _ => ⟨[], rfl⟩
  | r :: rs, h => by
    obtain ⟨ns, hns⟩ := cc_of rs (fun r hr => h r (by simp [hr]))
    match r, h r (by simp) with
    | [a, b, c, d], _ => exact ⟨⟨a, b, c, d⟩ :: ns, by simp only [cc] at hns ⊢; simp [hns]⟩
theorem open_flatC {t e ti : TypeId} {f0 f1 f2 f3 : Field} {A : Option Addr} {n c : Nat} {d : DataW H} {p : List MemPlace} (ht : P.underlying t = some (.slice e)) (he : P.underlying e = some (.struct #[f0, f1, f2, f3]))
    (hi : P.underlying ti = some (.int .i64)) (hone : Deep.oneCellFields P #[f0, f1, f2, f3] = true) (hC : P.cellsOf e = 4) (hall : ((#[f0, f1, f2, f3] : Array Field).all fun f => f.type == ti) = true)
    (h : DataW.Trod enc P w base spare held t (.slice A n c) d p) : ∃ ns : List C4, CarsAt w A n ns ∧ n ≤ maxLen := by
  obtain ⟨rs, hr, hs, hm⟩ := open_flat ht he hi hone hC hall (by simp) h
  obtain ⟨ns, hns⟩ := cc_of rs hr
  exact ⟨ns, by unfold CarsAt; rw [hns]; exact hs, hm⟩
theorem pc_of : ∀ (rs : List (List Int)), (∀ r ∈ rs, r.length = 3) → ∃ ns : List P3, pc ns = rs.map fun r => r.map (Value.int .i64)
  | [], _ => ⟨[], rfl⟩
  | r :: rs, h => by
    obtain ⟨ns, hns⟩ := pc_of rs (fun r hr => h r (by simp [hr]))
    match r, h r (by simp) with
    | [a, b, c], _ => exact ⟨⟨a, b, c⟩ :: ns, by simp only [pc] at hns ⊢; simp [hns]⟩
theorem open_flatP {t e ti : TypeId} {f0 f1 f2 : Field} {A : Option Addr} {n c : Nat} {d : DataW H} {p : List MemPlace} (ht : P.underlying t = some (.slice e)) (he : P.underlying e = some (.struct #[f0, f1, f2]))
    (hi : P.underlying ti = some (.int .i64)) (hone : Deep.oneCellFields P #[f0, f1, f2] = true) (hC : P.cellsOf e = 3) (hall : ((#[f0, f1, f2] : Array Field).all fun f => f.type == ti) = true)
    (h : DataW.Trod enc P w base spare held t (.slice A n c) d p) : ∃ ns : List P3, PlacesAt w A n ns ∧ n ≤ maxLen := by
  obtain ⟨rs, hr, hs, hm⟩ := open_flat ht he hi hone hC hall (by simp) h
  obtain ⟨ns, hns⟩ := pc_of rs hr
  exact ⟨ns, by unfold PlacesAt; rw [hns]; exact hs, hm⟩
end
end Go.Proofs.Ytikhoekdoocjpaa
