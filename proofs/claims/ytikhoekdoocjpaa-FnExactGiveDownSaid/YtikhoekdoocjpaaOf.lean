/-
  PlacesOf of the program and of the reference.
-/
import Derived.Test.YtikhoekdoocjpaaOfP
import Derived.Test.YtikhoekdoocjpaaGiveV
namespace Go.Proofs.Ytikhoekdoocjpaa
open Go.ChangeShapes Go.WideShapes Go.ChangeAt Go.RowKit

theorem ownR_nil {w w1 : World} {rs : List Int} (hb : Below w.heap.size w w1) (h : rs = []) : OwnR w rs (.returned (.slice none 0 0)) w1 := by
  subst h; exact ownR_mk rfl (own_ints (own_nil _ _)) hb
theorem ownR_row {w w0 w1 : World} {v : Value} {m : Nat} {rs : List Int} (ho : w1.ownsRow w0.heap.size 3 1 v m (rs.map (Value.int .i64))) (hb0 : Below w.heap.size w w0) (hb : Below w0.heap.size w0 w1) : OwnR w rs (.returned v) w1 := by
  have h := own_ints ho
  obtain ⟨A', c', rfl, _, _⟩ := h.form
  exact ownR_mk rfl (h.base hb0.size) (hb0.trans (hb.mono hb0.size))

theorem l1In_idx_yes (n : Nat) (z : Int) (w : World) (h : idxB n z = true) : Calls Try.prog 39 #[.int .i64 z, .int .i64 0, .int .i64 ((n : Int) - 1)] w (RS w (.bool true)) := by
  have hb : (decide (0 ≤ z) && decide (z ≤ (n : Int) - 1)) = true := by unfold idxB at h; simp at h ⊢; omega
  rw [← hb]; exact l1In_any _ _ _ _
theorem l1In_idx_no (n : Nat) (z : Int) (w : World) (h : idxB n z = false) : Calls Try.prog 39 #[.int .i64 z, .int .i64 0, .int .i64 ((n : Int) - 1)] w (RS w (.bool false)) := by
  have hb : (decide (0 ≤ z) && decide (z ≤ (n : Int) - 1)) = false := by unfold idxB at h; simp at h ⊢; omega
  rw [← hb]; exact l1In_any _ _ _ _
theorem specFits_yes (x : C4) (y : P3) (w : World) (h : fitP x y = true) :
    Calls Try.prog 40 #[.agg #[.int .i64 x.f, .int .i64 x.t, .int .i64 x.r, .int .i64 x.u], .agg #[.int .i64 y.f, .int .i64 y.t, .int .i64 y.r]] w (RV w (.bool true)) := by rw [← h]; exact specFits_any _ _ _ _ _ _ _ _
theorem specFits_no (x : C4) (y : P3) (w : World) (h : fitP x y = false) :
    Calls Try.prog 40 #[.agg #[.int .i64 x.f, .int .i64 x.t, .int .i64 x.r, .int .i64 x.u], .agg #[.int .i64 y.f, .int .i64 y.t, .int .i64 y.r]] w (RV w (.bool false)) := by rw [← h]; exact specFits_any _ _ _ _ _ _ _ _

theorem ownR_empty {w w1 : World} {rs : List Int} (hb : Below w.heap.size w w1) (h : rs = []) : OwnR w rs (.returned (.slice (some ⟨w1.heap.size, 0, none⟩) 0 0)) (w1.alloc (.cells #[] 3)) := by
  subst h; exact ownR_mk rfl (own_ints (own_empty hb.size)) (hb.alloc hb.size _)

end Go.Proofs.Ytikhoekdoocjpaa
