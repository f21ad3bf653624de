/-
  What an argument of a statement reads as: a list of numbers, a list of rows of numbers, a struct of numbers.
-/
import Derived.Test.YtecjhomfoakaeaaDoorLib
import Derived.Deep.Fields
import Derived.Deep.Matrix
namespace Go.Proofs.YtecjhomfoakaeaaDoor
open Go.ChangeShapes Go.WideShapes Go.ChangeAt Go.RowKit

theorem own : ownKnob Tryd.prog.godebug = none := by kernel_rfl
theorem laidOut : laidOutB Tryd.prog = true := by kernel_rfl

section
variable {H : Type} {enc : TypeId × Value → H} {P : Program} {w : World} {base : Nat} {spare : Nat → Bool} {held : Bool}

theorem spot_none {w : World} {a : Addr} {v : Value} {i : Nat} (h : w.cell? (a.add i) = some v) : a.add i = ⟨a.block, a.off + i, none⟩ := by
  have hs := World.cell?_spot h
  unfold Addr.add at hs ⊢
  split
  · rename_i h0; subst h0; simp at hs ⊢; cases a; simp_all
  · rfl

theorem open_intsAt {t e : TypeId} {A : Option Addr} {n c : Nat} {d : DataW H} {p : List MemPlace} (ht : P.underlying t = some (.slice e)) (he : P.underlying e = some (.int .i64)) (hc : P.cellsOf e = 1)
    (h : DataW.Trod enc P w base spare held t (.slice A n c) d p) : ∃ xs : List Int, IntsAt w A n xs ∧ n ≤ maxLen := by
  obtain ⟨fuel, hf⟩ := h
  rcases open_ints ht he hc hf with ⟨hcs, _⟩ | ⟨x, l, c', zs, hcs, _, hl, hm, hz, _, hcell, hwz⟩
  · simp [Value.cells] at hcs
    obtain ⟨rfl, rfl, rfl⟩ := hcs
    exact ⟨[], SlAt.nil _ _ _, by unfold maxLen; omega⟩
  · simp [Value.cells] at hcs
    obtain ⟨rfl, rfl, rfl⟩ := hcs
    have hlen : n ≤ zs.length := by split at hz <;> omega
    refine ⟨zs.take n, ⟨by simp; omega, fun k r hr => ?_⟩, by omega⟩
    have hk : k < n := by have := (List.getElem?_eq_some_iff.1 hr).1; simp at this; omega
    have h1 := hcell k (by omega)
    have h2 := spot_none h1
    have hx : (zs.take n)[k]? = some (zs.getD k 0) := by
      rw [List.getElem?_take, if_pos hk, List.getElem?_eq_getElem (by omega)]; simp [List.getD_eq_getElem?_getD, List.getElem?_eq_getElem (show k < zs.length by omega)]
    have hr' : r = [.int .i64 (zs.getD k 0)] := by
      rw [List.getElem?_map, hx] at hr; injection hr with hr; exact hr.symm
    subst hr'
    have hsp : x.spot = none := by
      have := hcell 0 (by omega)
      have := World.cell?_spot this
      simpa [Addr.add] using this
    refine ⟨x.block, x.off, by cases x; simp_all, World.block_lt_of_cell? w ⟨x.block, x.off + k, none⟩ (by rw [h2] at h1; exact h1), rfl, fun j v hv => ?_⟩
    match j, hv with
    | 0, hv => simp at hv; subst hv; rw [h2] at h1; simpa using h1

theorem add_add' (a : Addr) (i j : Nat) : (a.add i).add j = a.add (i + j) := by
  unfold Addr.add
  by_cases hi : i = 0 <;> by_cases hj : j = 0 <;> simp [hi, hj, Nat.add_assoc]

/-- A list of structs, each of which is sz numbers. -/
theorem open_flat {t e ti : TypeId} {fs : Array Field} {A : Option Addr} {n c : Nat} {d : DataW H} {p : List MemPlace} (ht : P.underlying t = some (.slice e)) (he : P.underlying e = some (.struct fs))
    (hi : P.underlying ti = some (.int .i64)) (hone : Deep.oneCellFields P fs = true) (hC : P.cellsOf e = fs.size) (hall : (fs.all fun f => f.type == ti) = true) (hpos : 0 < fs.size)
    (h : DataW.Trod enc P w base spare held t (.slice A n c) d p) : ∃ rs : List (List Int), (∀ r ∈ rs, r.length = fs.size) ∧ SlAt w fs.size A n (rs.map fun r => r.map (Value.int .i64)) ∧ n ≤ maxLen := by
  obtain ⟨fuel, hf⟩ := h
  rcases Deep.open_slice ht hf with ⟨hcs, _⟩ | ⟨x, l, cap, m, k, D, Pl, hcs, _, hl, hm, hmm, _, hx⟩
  · simp [Value.cells] at hcs
    obtain ⟨rfl, rfl, rfl⟩ := hcs
    exact ⟨[], by simp, SlAt.nil _ _ _, by unfold maxLen; omega⟩
  · simp [Value.cells] at hcs
    obtain ⟨rfl, rfl, rfl⟩ := hcs
    have hnm : n ≤ m := by rw [hmm]; split <;> omega
    have each : ∀ i, i < n → ∃ r : List Int, r.length = fs.size ∧ ∀ j y, r[j]? = some y → w.cell? (x.add (i * fs.size + j)) = some (.int .i64 y) := by
      intro i hin
      obtain ⟨cs', hc, htr⟩ := hx i (by omega)
      rw [hC] at hc
      obtain ⟨ys, k', _, _, hlen, hyl, hfld⟩ := DataW.trod_struct he htr
      obtain ⟨_, hcl, hat⟩ := World.cells?_some hc
      have hj : ∀ j, j < fs.size → ∃ y : Int, cs'[j]? = some (.int .i64 y) := by
        intro j hjs
        have hfj : fs[j]? = some (fs[j]'hjs) := Array.getElem?_eq_getElem hjs
        obtain ⟨ho, hk⟩ := Deep.hone_of hone j _ hfj
        have h1 := hfld j _ hfj
        have hty : (fs[j]'hjs).type = ti := by
          have := Array.all_eq_true.1 hall j hjs
          simpa using this
        rw [ho, hk, hty] at h1
        have hone' : (cs'.drop j).take 1 = [cs'[j]'(by omega)] := by
          rw [List.drop_eq_getElem_cons (by omega)]; rfl
        rw [hone', List.getElem?_eq_getElem (show j < ys.length by omega)] at h1
        obtain ⟨y, hy, _⟩ := DataW.trod_int hi h1
        simp at hy
        exact ⟨y, by rw [List.getElem?_eq_getElem (by omega), hy]⟩
      obtain ⟨f, hfs⟩ : ∃ f : Nat → Int, ∀ j, j < fs.size → cs'[j]? = some (.int .i64 (f j)) :=
        ⟨fun j => if hjs : j < fs.size then (hj j hjs).choose else 0, fun j hjs => by simp only [dif_pos hjs]; exact (hj j hjs).choose_spec⟩
      refine ⟨(List.range fs.size).map f, by simp, fun j y hy => ?_⟩
      have hjs : j < fs.size := by have := (List.getElem?_eq_some_iff.1 hy).1; simpa using this
      rw [List.getElem?_map, List.getElem?_range hjs] at hy
      injection hy with hy
      rw [← add_add', hat j hjs, hfs j hjs, hy]
    obtain ⟨g, hg⟩ : ∃ g : Nat → List Int, ∀ i, i < n → (g i).length = fs.size ∧ ∀ j y, (g i)[j]? = some y → w.cell? (x.add (i * fs.size + j)) = some (.int .i64 y) :=
      ⟨fun i => if hin : i < n then (each i hin).choose else [], fun i hin => by simp only [dif_pos hin]; exact (each i hin).choose_spec⟩
    refine ⟨(List.range n).map g, ?_, ⟨by simp, fun i r hr => ?_⟩, by omega⟩
    · intro r hr
      simp only [List.mem_map, List.mem_range] at hr
      obtain ⟨i, hin, rfl⟩ := hr
      exact (hg i hin).1
    · have hin : i < n := by have := (List.getElem?_eq_some_iff.1 hr).1; simpa using this
      rw [List.getElem?_map, List.getElem?_map, List.getElem?_range hin] at hr
      simp only [Option.map_some, Option.some.injEq] at hr
      subst hr
      have hcell := hg i hin
      have h1 := hcell.2 0 _ (List.getElem?_eq_getElem (by omega))
      have h2 := spot_none h1
      have h3 := (hg 0 (by omega)).2 0 _ (List.getElem?_eq_getElem (by have := (hg 0 (by omega)).1; omega))
      have hsp : x.spot = none := by
        have := World.cell?_spot h3
        simpa [Addr.add] using this
      rw [h2] at h1
      refine ⟨x.block, x.off, by cases x; simp_all, World.block_lt_of_cell? w ⟨x.block, x.off + (i * fs.size + 0), none⟩ h1, by simp [hcell.1], fun j v hv => ?_⟩
      rw [List.getElem?_map] at hv
      obtain ⟨y, hy, rfl⟩ := Option.map_eq_some_iff.1 hv
      have h4 := hcell.2 j y hy
      rw [spot_none h4] at h4
      rw [Nat.add_assoc]; exact h4

/-- A list of lists of numbers. -/
theorem ints_of_cells {a : Addr} {L : Nat} {Z : List Int} (hL : L ≤ Z.length) (h : ∀ c, c < L → w.cell? (a.add c) = some (.int .i64 (Z.getD c 0))) : IntsAt w (some a) L (Z.take L) := by
  refine ⟨by simp; omega, fun k r hr => ?_⟩
  have hk : k < L := by have := (List.getElem?_eq_some_iff.1 hr).1; simp at this; omega
  have h1 := h k hk
  have h2 := spot_none h1
  have hx : (Z.take L)[k]? = some (Z.getD k 0) := by
    rw [List.getElem?_take, if_pos hk, List.getElem?_eq_getElem (by omega)]; simp [List.getD_eq_getElem?_getD, List.getElem?_eq_getElem (show k < Z.length by omega)]
  have hr' : r = [.int .i64 (Z.getD k 0)] := by
    rw [List.getElem?_map, hx] at hr; injection hr with hr; exact hr.symm
  subst hr'
  have hsp : a.spot = none := by
    have := World.cell?_spot (h 0 (by omega))
    simpa [Addr.add] using this
  refine ⟨a.block, a.off, by cases a; simp_all, World.block_lt_of_cell? w ⟨a.block, a.off + k, none⟩ (by rw [h2] at h1; exact h1), rfl, fun j v hv => ?_⟩
  match j, hv with
  | 0, hv => simp at hv; subst hv; rw [h2] at h1; simpa using h1

end
end Go.Proofs.YtecjhomfoakaeaaDoor
