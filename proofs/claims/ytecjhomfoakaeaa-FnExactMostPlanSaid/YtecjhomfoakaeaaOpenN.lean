/-
  Lists of needs and plans as arguments of a statement.
-/
import Derived.Test.YtecjhomfoakaeaaOpen
import Derived.Test.YtecjhomfoakaeaaNeeds
import Derived.Test.YtecjhomfoakaeaaPlans
namespace Go.Proofs.Ytecjhomfoakaeaa
open Go.ChangeShapes Go.WideShapes Go.ChangeAt Go.RowKit

section
variable {H : Type} {enc : TypeId × Value → H} {P : Program} {w : World} {base : Nat} {spare : Nat → Bool} {held : Bool}
theorem nc_of : ∀ (rs : List (List Int)), (∀ r ∈ rs, r.length = 4) → ∃ ns : List N4, nc ns = rs.map fun r => r.map (Value.int .i64)
  | [], _ => ⟨[], rfl⟩
  | r :: rs, h => by
    obtain ⟨ns, hns⟩ := nc_of rs (fun r hr => h r (by simp [hr]))
    match r, h r (by simp) with
    | [a, b, c, d], _ => exact ⟨⟨a, b, c, d⟩ :: ns, by simp only [nc] at hns ⊢; simp [hns]⟩
theorem open_flatN {t e ti : TypeId} {f0 f1 f2 f3 : Field} {A : Option Addr} {n c : Nat} {d : DataW H} {p : List MemPlace} (ht : P.underlying t = some (.slice e)) (he : P.underlying e = some (.struct #[f0, f1, f2, f3]))
    (hi : P.underlying ti = some (.int .i64)) (hone : Deep.oneCellFields P #[f0, f1, f2, f3] = true) (hC : P.cellsOf e = 4) (hall : ((#[f0, f1, f2, f3] : Array Field).all fun f => f.type == ti) = true)
    (h : DataW.Trod enc P w base spare held t (.slice A n c) d p) : ∃ ns : List N4, NeedsAt w A n ns ∧ n ≤ maxLen := by
  obtain ⟨rs, hr, hs, hm⟩ := open_flat ht he hi hone hC hall (by simp) h
  obtain ⟨ns, hns⟩ := nc_of rs hr
  exact ⟨ns, by unfold NeedsAt; rw [hns]; exact hs, hm⟩
theorem open_rowsAt {t e q : TypeId} {A : Option Addr} {n c : Nat} {d : DataW H} {p : List MemPlace} (ht : P.underlying t = some (.slice e)) (he : P.underlying e = some (.slice q)) (hq : P.underlying q = some (.int .i64))
    (ce : P.cellsOf e = 1) (cq : P.cellsOf q = 1) (h : DataW.Trod enc P w base (fun _ => true) held t (.slice A n c) d p) : ∃ rows : List (List Int), RowsAt w A n rows ∧ n ≤ maxLen := by
  obtain ⟨fuel, hf⟩ := h
  rcases Deep.open_int_rows ht he hq ce cq hf with ⟨hcs, _⟩ | ⟨a, len, cap, B, L, C, Z, hcs, _, hl, hm, _, hx⟩
  · simp [Value.cells] at hcs
    obtain ⟨rfl, rfl, rfl⟩ := hcs
    exact ⟨[], ⟨rfl, fun k r h => by simp at h⟩, by unfold maxLen; omega⟩
  · simp [Value.cells] at hcs
    obtain ⟨rfl, rfl, rfl⟩ := hcs
    refine ⟨(List.range n).map fun r => (Z r).take (L r), ⟨by simp, fun k r hr => ?_⟩, by omega⟩
    have hk : k < n := by have := (List.getElem?_eq_some_iff.1 hr).1; simpa using this
    rw [List.getElem?_map, List.getElem?_range hk] at hr
    injection hr with hr
    obtain ⟨h1, h2, h3, h4, _, h6, h7⟩ := hx k (by omega)
    have hlen : r.length = L k := by rw [← hr]; simp; omega
    have hs := spot_none h1
    have hsp : a.spot = none := by
      have := World.cell?_spot (hx 0 (by omega)).1
      simpa [Addr.add] using this
    rw [hs] at h1
    refine ⟨a.block, a.off, B k, C k, by cases a; simp_all, World.block_lt_of_cell? w ⟨a.block, a.off + k, none⟩ h1, by rw [hlen]; exact h1, ?_, by rw [hlen]; unfold maxLen at h3; omega⟩
    rw [hlen, ← hr]
    cases hB : B k with
    | none =>
      have h0 : L k = 0 := by have := h6 hB; omega
      show IntsAt w none (L k) (List.take (L k) (Z k))
      rw [h0]; exact SlAt.nil _ _ _
    | some a' => exact ints_of_cells (by omega) fun c hc => (h7 a' hB).2 c (by omega)
end
end Go.Proofs.Ytecjhomfoakaeaa
