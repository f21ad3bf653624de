/-
  Lists of the call's own, each in a block of its own: a store, a number more behind one, and what stays.
-/
import Derived.Test.YtdebjcempkgeaaaGreatDoorPush
namespace Go.Proofs.YtdebjcempkgeaaaGreatDoor
open Go.ChangeShapes Go.WideShapes Go.ChangeAt Go.RowKit

theorem ownG_set {w : World} {base g n c sz : Nat} {e : TypeId} {vs : List Value} (h : w.ownsRow base e sz (.slice (some ⟨g, 0, none⟩) n c) n vs) (j : Nat) (v : Value) :
    (w.setCell ⟨g, j, none⟩ v).ownsRow base e sz (.slice (some ⟨g, 0, none⟩) n c) n (vs.set j v) := by
  refine ⟨by have := h.1; simpa using this, ?_⟩
  rcases h.2 with ⟨hv, _⟩ | ⟨g', cap, cur, hv, hg, hcur, h1, h2, h3, h4⟩
  · cases hv
  injection hv with e1 _ e2; injection e1 with e1; injection e1 with e1; subst e1; subst e2
  have hW : Whole w g e cur.toList := by unfold Whole; simpa using hcur
  have hW2 := hW.set_ j v
  refine .inr ⟨g, c, (cur.toList.set j v).toArray, rfl, hg, hW2, h1, h2, by simpa using h3, ?_⟩
  show (cur.toList.set j v).take (n * sz) = _
  rw [List.take_set, h4]
theorem ownG_blk {w w' : World} {base g n c sz : Nat} {e : TypeId} {vs : List Value} (h : w.ownsRow base e sz (.slice (some ⟨g, 0, none⟩) n c) n vs) (hb : w'.heap[g]? = w.heap[g]?) :
    w'.ownsRow base e sz (.slice (some ⟨g, 0, none⟩) n c) n vs := by
  refine ⟨h.1, ?_⟩
  rcases h.2 with ⟨hv, _⟩ | ⟨g', cap, cur, hv, hg, hcur, h1⟩
  · cases hv
  injection hv with e1 _ e2; injection e1 with e1; injection e1 with e1; subst e1; subst e2
  exact .inr ⟨g, c, cur, rfl, hg, hb.trans hcur, h1⟩
theorem ownG_far {w : World} {base g n c sz : Nat} {e : TypeId} {vs : List Value} (h : w.ownsRow base e sz (.slice (some ⟨g, 0, none⟩) n c) n vs) : base ≤ g ∧ g < w.heap.size := h.lt g rfl
theorem ownG_free {w : World} {base g n c sz : Nat} {e : TypeId} {vs : List Value} (h : w.ownsRow base e sz (.slice (some ⟨g, 0, none⟩) n c) n vs) (j : Nat) : w.frozen? ⟨g, j, none⟩ = false := by
  rcases h.2 with ⟨hv, _⟩ | ⟨g', cap, cur, hv, hg, hcur, h1⟩
  · cases hv
  injection hv with e1 _ e2; injection e1 with e1; injection e1 with e1; subst e1; subst e2
  have hW : Whole w g e cur.toList := by unfold Whole; simpa using hcur
  exact hW.free j
theorem ownG_cell {w : World} {base g n c : Nat} {e : TypeId} {vs : List Value} (h : w.ownsRow base e 1 (.slice (some ⟨g, 0, none⟩) n c) n vs) {j : Nat} {v : Value} (hv : vs[j]? = some v) : w.cell? ⟨g, j, none⟩ = some v := by
  have hc := h.cells (g := g) rfl j v hv
  unfold Addr.add at hc
  split at hc
  · rename_i hz; simpa [hz] using hc
  · simpa using hc
theorem ownG_cap {w : World} {base g n c sz : Nat} {e : TypeId} {vs : List Value} (h : w.ownsRow base e sz (.slice (some ⟨g, 0, none⟩) n c) n vs) : n ≤ c ∧ c ≤ 9223372036854775807 := by
  rcases h.2 with ⟨hv, _⟩ | ⟨g', cap, cur, hv, hg, hcur, h1, h2, _⟩
  · cases hv
  injection hv with e1 _ e2; subst e2
  exact ⟨h1, by unfold maxLen at h2; exact h2⟩
theorem blk_other (w : World) (p : Addr) (v : Value) {g : Nat} (hp : g ≠ p.block) : (w.setCell p v).heap[g]? = w.heap[g]? := Below.heap_setCell w p v g hp

theorem blk_grow {w w' : World} {o : Obj} {q : Option Nat} {k : Nat} (hg : (w.alloc o).grownBy w' q) (hk : k < w.heap.size) (hq : some k ≠ q) : w'.heap[k]? = w.heap[k]? :=
  (hg.block k (by simp; omega) hq).trans (Below.heap_alloc w o k hk)
/-- One number more behind a list of the call's own: what else lies where it lay. -/
theorem wpList_moreG {ops : Array Oper} {rest : List Oper} {o : Oper} {a : Act} {Q : Exit → Act → World → Prop} {base : Nat} {wr : World} (hgd : o.guard = none) (s x : Operand)
    (ho : o.op = .call { callee := .builtin .append, args := #[s, x], argTypes := #[23, 23] })
    {v : Value} {n : Nat} {xs : List Int} (hbase : base ≤ wr.heap.size) (hown : wr.ownsRow base 3 1 v n (xs.map (Value.int .i64))) (z : Int) (hs : a.eval s = v)
    (hx : a.eval x = .slice (some ⟨wr.heap.size, 0, none⟩) 1 1) (hn : n ≤ 1048576)
    (h : ∀ g cap w', w'.ownsRow base 3 1 (.slice (some ⟨g, 0, none⟩) (n + 1) cap) (n + 1) ((xs ++ [z]).map (Value.int .i64)) → (wr.alloc (.cells #[.int .i64 z] 3)).grownBy w' v.ownBlock → (v.ownBlock = some g ∨ g = wr.heap.size + 1) → wpList Tryz.prog ops Q rest (a.put o.dst (.slice (some ⟨g, 0, none⟩) (n + 1) cap)) w') :
    wpList Tryz.prog ops Q (o :: rest) a (wr.alloc (.cells #[.int .i64 z] 3)) := by
  obtain ⟨i0, hi, hz0, hz1, hz2⟩ := info_parts int_info
  refine wpList_append_lies _ hgd s x 23 ho base 3 i0 (.int .i64 0) 1 8 Tryz.underlying23 hi hz0 hz1 hz2 rfl (by decide) v n _ hs (hown.alloc _) ⟨wr.heap.size, 0, none⟩ 1 1 [.int .i64 z] hx rfl (new_cells wr _ [.int .i64 z]) ?_ (by omega) (by unfold maxLen; omega) (by omega) (by simp; omega) (wr.heap.size + 1) (by simp) ?_
  · intro u hu
    simp at hu; subst hu; rfl
  intro g cap w' hown' hgrow hg _
  exact h g cap w' (by rw [List.map_append]; exact hown') hgrow hg
theorem ownI_get {w : World} {base g n c : Nat} {xs : List Int} (h : w.ownsRow base 3 1 (.slice (some ⟨g, 0, none⟩) n c) n (xs.map (Value.int .i64))) {k : Nat} {x : Int} (hx : xs[k]? = some x) : w.cell? ⟨g, k, none⟩ = some (.int .i64 x) :=
  ownG_cell h (by rw [List.getElem?_map, hx]; rfl)
theorem ownI_len {w : World} {base g n c : Nat} {xs : List Int} (h : w.ownsRow base 3 1 (.slice (some ⟨g, 0, none⟩) n c) n (xs.map (Value.int .i64))) : xs.length = n := by
  have := h.1; simpa using this
end Go.Proofs.YtdebjcempkgeaaaGreatDoor
