/-
  A need that the reference draws.
-/
import Derived.Test.YtdebjcempkgeaaaGreatDoorRd
import Derived.Deep.RegionWith
namespace Go.Proofs.YtdebjcempkgeaaaGreatDoor
open Go.ChangeShapes Go.WideShapes Go.ChangeAt Go.RowKit

theorem Rd.lt {w0 w : World} {R : Nat} {A : Option Addr} {n c : Nat} {bs : List Int} {K : Nat} (h : Rd w0 w R A n c bs K) : R < w.heap.size := by obtain ⟨p, _, h2⟩ := h.blk; exact h2.lt
theorem Rd.set {w0 w : World} {R : Nat} {A : Option Addr} {n c : Nat} {bs : List Int} {K : Nat} (h : Rd w0 w R A n c bs K) {p : Addr} (hp : R < p.block) (v : Value) : Rd w0 (w.setCell p v) R A n c bs K := by
  obtain ⟨q, h1, h2⟩ := h.blk
  exact ⟨⟨q, h1, h2.far (by omega) v⟩, h.bytes, h.small, h.bR, h.bw.setCell (by have := h.bR; omega) v⟩
theorem Fr1.far {R : Nat} {w w1 : World} (h : Fr1 R w w1) {p : Addr} (hp : w.heap.size ≤ p.block) (v : Value) : Fr1 R w (w1.setCell p v) :=
  ⟨by simp [World.setCell]; exact h.size, fun k hk h1 => (Below.heap_setCell w1 p v k (by omega)).trans (h.block k hk h1)⟩

end Go.Proofs.YtdebjcempkgeaaaGreatDoor
