/-
  What ReadCar answers, as one answer with a mark; the two ReadCar in these words.
-/
import Derived.Test.YtecjhomfoakaeaaDoorIRead
import Derived.Shelf.Vars
namespace Go.Proofs.YtecjhomfoakaeaaDoor
open Go.ChangeShapes Go.WideShapes Go.ChangeAt Go.RowKit

/-- The answer of ReadCar for s. -/
def ReadAns (s : List UInt8) (f t r u : Int) (b : Bool) : Prop :=
  (b = true ∧ carB f t r u = true ∧ carT f t r u = s) ∨ (b = false ∧ f = 0 ∧ t = 0 ∧ r = 0 ∧ u = 0 ∧ ∀ f t r u : Int, carB f t r u = true → carT f t r u ≠ s)
theorem carT_inj {f t r u f' t' r' u' : Int} (h : carB f t r u = true) (h' : carB f' t' r' u' = true) (he : carT f t r u = carT f' t' r' u') : f = f' ∧ t = t' ∧ r = r' ∧ u = u' := by
  obtain ⟨R, a1, a2, b1, b2, b3, b4⟩ := carT_cut h
  obtain ⟨R', a1', a2', b1', b2', b3', b4'⟩ := carT_cut h'
  rw [he, a1'] at a1
  injection a1 with e1 a1; injection a1 with e2 _
  rw [e2, a2] at a2'
  injection a2' with c1 a2'; injection a2' with c2 a2'; injection a2' with c3 _
  exact ⟨by rw [← b1, ← b1', e1], by rw [← b2, ← b2', c1], by rw [← b3, ← b3', c2], by rw [← b4, ← b4', c3]⟩
theorem ReadAns.one {s : List UInt8} {f t r u f' t' r' u' : Int} {b b' : Bool} (h : ReadAns s f t r u b) (h' : ReadAns s f' t' r' u' b') : f = f' ∧ t = t' ∧ r = r' ∧ u = u' ∧ b = b' := by
  rcases h with ⟨rfl, h1, h2⟩ | ⟨rfl, rfl, rfl, rfl, rfl, h2⟩ <;> rcases h' with ⟨rfl, h1', h2'⟩ | ⟨rfl, rfl, rfl, rfl, rfl, h2'⟩
  · obtain ⟨a, b, c, d⟩ := carT_inj h1 h1' (h2.trans h2'.symm); exact ⟨a, b, c, d, rfl⟩
  · exact absurd h2 (h2' _ _ _ _ h1)
  · exact absurd h2' (h2 _ _ _ _ h1')
  · exact ⟨rfl, rfl, rfl, rfl, rfl⟩
def ReadOut (s : List UInt8) (w : World) (e : Ending) (w' : World) : Prop :=
  ∃ (f t r u : Int) (b : Bool), Hid (ReadAns s f t r u b) ∧ e = .returned (.tuple #[.agg #[.int .i64 f, .int .i64 t, .int .i64 r, .int .i64 u], .bool b]) ∧ Below w.heap.size w w'
theorem ReadRes.outs {s : List UInt8} {w w' : World} {e : Ending} (h : ReadRes s w e w') : ReadOut s w e w' := by
  obtain ⟨⟨f, t, r, u, h1, h2, rfl⟩ | ⟨h1, rfl⟩, hb⟩ := h
  · exact ⟨f, t, r, u, true, Lib.hid (.inl ⟨rfl, h1, h2⟩), rfl, hb⟩
  · exact ⟨0, 0, 0, 0, false, Lib.hid (.inr ⟨rfl, rfl, rfl, rfl, rfl, h1⟩), rfl, hb⟩
theorem specReadCar_out (s : List UInt8) (w : World) (hl : s.length ≤ 1048576) : Calls Tryd.prog 6 #[.string ⟨s.toArray⟩] w (ReadOut s w) :=
  (specReadCar_any s w hl).mono fun _ _ h => h.outs
theorem implReadCar_out (s : List UInt8) (w : World) (hl : s.length ≤ 1048576) (m : Int) (hm : w.cell? ⟨0, 0, none⟩ = some (.int .i64 m)) (h0 : 0 < w.heap.size) : Calls Tryd.prog 7 #[.string ⟨s.toArray⟩] w (ReadOut s w) :=
  (implReadCar_any s w hl m hm h0).mono fun _ _ h => h.outs
/-- The number of the package variable that Index reads. -/
theorem max_cell {w : World} (h : w.ShapedOpen Tryd.prog) : ∃ m : Int, w.cell? ⟨0, 0, none⟩ = some (.int .i64 m) ∧ 0 < w.heap.size := by
  obtain ⟨m, hm⟩ := cell_of_shapedOpen_int (zero := #[.int .i64 0]) (t := 3) h (of_decide_eq_true (by kernel_rfl)) (by kernel_rfl) rfl (by kernel_rfl) (by kernel_rfl) Tryd.underlying3
  refine ⟨m, hm, ?_⟩
  cases hw : w.heap[0]? with
  | none => unfold World.cell? at hm; simp [hw] at hm
  | some o => exact (Array.getElem?_eq_some_iff.1 hw).1
end Go.Proofs.YtecjhomfoakaeaaDoor
