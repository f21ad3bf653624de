/-
  What a list of bytes reads as.
-/
import Derived.Test.YtdebjcempkgeaaaGreatDoorRd
import Derived.Test.YtdebjcempkgeaaaGreatDoorCards
import Derived.Test.YtdebjcempkgeaaaGreatDoorTie
import Derived.ProofKit
import Derived.OpenShut
import Derived.Deep.DeepHandedRow
import Derived.LaidMore
namespace Go.Proofs.YtdebjcempkgeaaaGreatDoor
open Go.ChangeShapes Go.WideShapes Go.ChangeAt Go.RowKit

theorem own : ownKnob Tryz.prog.godebug = none := by kernel_rfl
theorem laidOut : laidOutB Tryz.prog = true := by kernel_rfl

section
variable {H : Type} {enc : TypeId × Value → H} {P : Program} {w : World} {base : Nat} {spare : Nat → Bool} {held : Bool}

theorem spot_none {w : World} {a : Addr} {v : Value} {i : Nat} (h : w.cell? (a.add i) = some v) : a.add i = ⟨a.block, a.off + i, none⟩ := by
  have hs := World.cell?_spot h
  unfold Addr.add at hs ⊢
  split
  · rename_i h0; subst h0; simp at hs ⊢; cases a; simp_all
  · rfl

theorem open_bytesAt {t e : TypeId} {A : Option Addr} {n c : Nat} {d : DataW H} {p : List MemPlace} (ht : P.underlying t = some (.slice e)) (he : P.underlying e = some (.int .u8)) (hc : P.cellsOf e = 1)
    (h : DataW.Trod enc P w base spare held t (.slice A n c) d p) : ∃ xs : List Int, BytesAt w A n xs ∧ (n ≤ c ∧ c ≤ 9223372036854775807) := by
  obtain ⟨fuel, hf⟩ := h
  rcases open_ints ht he hc hf with ⟨hcs, _⟩ | ⟨x, l, c', zs, hcs, _, hl, hm, hz, _, hcell, hwz⟩
  · simp [Value.cells] at hcs
    obtain ⟨rfl, rfl, rfl⟩ := hcs
    exact ⟨[], ⟨SlAt.nil _ _ _, by simp⟩, by omega⟩
  · simp [Value.cells] at hcs
    obtain ⟨rfl, rfl, rfl⟩ := hcs
    have hlen : n ≤ zs.length := by split at hz <;> omega
    unfold maxLen at hm
    refine ⟨zs.take n, ⟨⟨by simp; omega, fun k r hr => ?_⟩, fun b hb => ?_⟩, by omega⟩
    · have hk : k < n := by have := (List.getElem?_eq_some_iff.1 hr).1; simp at this; omega
      have h1 := hcell k (by omega)
      have h2 := spot_none h1
      have hx : (zs.take n)[k]? = some (zs.getD k 0) := by
        rw [List.getElem?_take, if_pos hk, List.getElem?_eq_getElem (by omega)]; simp [List.getD_eq_getElem?_getD, List.getElem?_eq_getElem (show k < zs.length by omega)]
      have hr' : r = [.int .u8 (zs.getD k 0)] := by
        rw [List.getElem?_map, hx] at hr; injection hr with hr; exact hr.symm
      subst hr'
      have hsp : x.spot = none := by
        have := hcell 0 (by omega)
        have := World.cell?_spot this
        simpa [Addr.add] using this
      refine ⟨x.block, x.off, by cases x; simp_all, World.block_lt_of_cell? w ⟨x.block, x.off + k, none⟩ (by rw [h2] at h1; exact h1), rfl, fun j v hv => ?_⟩
      match j, hv with
      | 0, hv => simp at hv; subst hv; rw [h2] at h1; simpa using h1
    · have h1 := hwz b (List.mem_of_mem_take hb)
      simp [Lit.wf, IntKind.min, IntKind.max, IntKind.signed, IntKind.bits] at h1
      omega
end
end Go.Proofs.YtdebjcempkgeaaaGreatDoor
