/-
  How MostPlan's lists lie while it runs: what the cars want, what the feed has, the rates, each list in a block of its own.
-/
import Derived.Test.YtecjhomfoakaeaaPush
import Derived.Test.YtecjhomfoakaeaaPlanOwn
import Derived.Test.YtecjhomfoakaeaaMostP
namespace Go.Proofs.Ytecjhomfoakaeaa
open Go.ChangeShapes Go.WideShapes Go.ChangeAt Go.RowKit

theorem ownG_set {w : World} {base g n c sz : Nat} {e : TypeId} {vs : List Value} (h : w.ownsRow base e sz (.slice (some ⟨g, 0, none⟩) n c) n vs) (j : Nat) (v : Value) :
    (w.setCell ⟨g, j, none⟩ v).ownsRow base e sz (.slice (some ⟨g, 0, none⟩) n c) n (vs.set j v) := by
  refine ⟨by have := h.1; simpa using this, ?_⟩
  rcases h.2 with ⟨hv, _⟩ | ⟨g', cap, cur, hv, hg, hcur, h1, h2, h3, h4⟩
  · cases hv
  injection hv with e1 _ e2; injection e1 with e1; injection e1 with e1; subst e1; subst e2
  have hW : Whole w g e cur.toList := by unfold Whole; simpa using hcur
  have hW2 := hW.set_ j v
  refine .inr ⟨g, c, (cur.toList.set j v).toArray, rfl, hg, hW2, h1, h2, by simpa using h3, ?_⟩
  show (cur.toList.set j v).take (n * sz) = _
  rw [List.take_set, h4]
theorem ownG_blk {w w' : World} {base g n c sz : Nat} {e : TypeId} {vs : List Value} (h : w.ownsRow base e sz (.slice (some ⟨g, 0, none⟩) n c) n vs) (hb : w'.heap[g]? = w.heap[g]?) :
    w'.ownsRow base e sz (.slice (some ⟨g, 0, none⟩) n c) n vs := by
  refine ⟨h.1, ?_⟩
  rcases h.2 with ⟨hv, _⟩ | ⟨g', cap, cur, hv, hg, hcur, h1⟩
  · cases hv
  injection hv with e1 _ e2; injection e1 with e1; injection e1 with e1; subst e1; subst e2
  exact .inr ⟨g, c, cur, rfl, hg, hb.trans hcur, h1⟩
theorem ownG_far {w : World} {base g n c sz : Nat} {e : TypeId} {vs : List Value} (h : w.ownsRow base e sz (.slice (some ⟨g, 0, none⟩) n c) n vs) : base ≤ g ∧ g < w.heap.size := h.lt g rfl
theorem ownG_free {w : World} {base g n c sz : Nat} {e : TypeId} {vs : List Value} (h : w.ownsRow base e sz (.slice (some ⟨g, 0, none⟩) n c) n vs) (j : Nat) : w.frozen? ⟨g, j, none⟩ = false := by
  rcases h.2 with ⟨hv, _⟩ | ⟨g', cap, cur, hv, hg, hcur, h1⟩
  · cases hv
  injection hv with e1 _ e2; injection e1 with e1; injection e1 with e1; subst e1; subst e2
  have hW : Whole w g e cur.toList := by unfold Whole; simpa using hcur
  exact hW.free j
theorem ownG_cell {w : World} {base g n c : Nat} {e : TypeId} {vs : List Value} (h : w.ownsRow base e 1 (.slice (some ⟨g, 0, none⟩) n c) n vs) {j : Nat} {v : Value} (hv : vs[j]? = some v) : w.cell? ⟨g, j, none⟩ = some v := by
  have hc := h.cells (g := g) rfl j v hv
  unfold Addr.add at hc
  split at hc
  · rename_i hz; simpa [hz] using hc
  · simpa using hc
theorem ownG_cap {w : World} {base g n c sz : Nat} {e : TypeId} {vs : List Value} (h : w.ownsRow base e sz (.slice (some ⟨g, 0, none⟩) n c) n vs) : n ≤ c ∧ c ≤ 9223372036854775807 := by
  rcases h.2 with ⟨hv, _⟩ | ⟨g', cap, cur, hv, hg, hcur, h1, h2, _⟩
  · cases hv
  injection hv with e1 _ e2; subst e2
  exact ⟨h1, by unfold maxLen at h2; exact h2⟩
theorem blk_other (w : World) (p : Addr) (v : Value) {g : Nat} (hp : g ≠ p.block) : (w.setCell p v).heap[g]? = w.heap[g]? := Below.heap_setCell w p v g hp

def rowV (p : Nat × Nat) : Value := .slice (some ⟨p.1, 0, none⟩) 6 p.2
structure PM (w : World) (B T n gU cU gF cF gR cR : Nat) (vs : List (Nat × Nat)) (ws fs : List Int) (rs : List (List Int)) : Prop where
  u : w.ownsRow B 3 1 (.slice (some ⟨gU, 0, none⟩) n cU) n (ws.map (Value.int .i64))
  f : w.ownsRow B 3 1 (.slice (some ⟨gF, 0, none⟩) 6 cF) 6 (fs.map (Value.int .i64))
  r : w.ownsRow B 23 1 (.slice (some ⟨gR, 0, none⟩) n cR) n (vs.map rowV)
  vl : vs.length = rs.length
  row : ∀ (j : Nat) (p : Nat × Nat) (r : List Int), vs[j]? = some p → rs[j]? = some r → w.ownsRow B 3 1 (rowV p) 6 (r.map (Value.int .i64))
  dUF : gU ≠ gF
  dUR : gU ≠ gR
  dFR : gF ≠ gR
  dV : ∀ p ∈ vs, p.1 ≠ gU ∧ p.1 ≠ gF ∧ p.1 ≠ gR
  inj : ∀ (i j : Nat) (p q : Nat × Nat), vs[i]? = some p → vs[j]? = some q → i ≠ j → p.1 ≠ q.1
  low : gU < T ∧ gF < T ∧ gR < T ∧ ∀ p ∈ vs, p.1 < T

section
variable {w w' : World} {B T n gU cU gF cF gR cR : Nat} {vs : List (Nat × Nat)} {ws fs : List Int} {rs : List (List Int)}
theorem PM.intsU (h : PM w B T n gU cU gF cF gR cR vs ws fs rs) : IntsAt w (some ⟨gU, 0, none⟩) n ws := (OwnAt.farInts h.u).ints
theorem PM.intsF (h : PM w B T n gU cU gF cF gR cR vs ws fs rs) : IntsAt w (some ⟨gF, 0, none⟩) 6 fs := (OwnAt.farInts h.f).ints
theorem PM.vn (h : PM w B T n gU cU gF cF gR cR vs ws fs rs) : vs.length = n ∧ rs.length = n := by
  have h1 := h.r.1
  have h2 := h.vl
  rw [List.length_map, Nat.mul_one] at h1
  exact ⟨h1, by omega⟩
theorem PM.cellR (h : PM w B T n gU cU gF cF gR cR vs ws fs rs) {k : Nat} {p : Nat × Nat} (hk : vs[k]? = some p) : w.cell? ⟨gR, k, none⟩ = some (rowV p) := ownG_cell h.r (by rw [List.getElem?_map, hk]; rfl)
theorem PM.cellU (h : PM w B T n gU cU gF cF gR cR vs ws fs rs) {k : Nat} {x : Int} (hk : ws[k]? = some x) : w.cell? ⟨gU, k, none⟩ = some (.int .i64 x) := ownG_cell h.u (by rw [List.getElem?_map, hk]; rfl)
theorem PM.cellF (h : PM w B T n gU cU gF cF gR cR vs ws fs rs) {k : Nat} {x : Int} (hk : fs[k]? = some x) : w.cell? ⟨gF, k, none⟩ = some (.int .i64 x) := ownG_cell h.f (by rw [List.getElem?_map, hk]; rfl)
theorem PM.cellRow (h : PM w B T n gU cU gF cF gR cR vs ws fs rs) {k j : Nat} {p : Nat × Nat} {r : List Int} {x : Int} (hk : vs[k]? = some p) (hr : rs[k]? = some r) (hx : r[j]? = some x) : w.cell? ⟨p.1, j, none⟩ = some (.int .i64 x) :=
  ownG_cell (h.row k p r hk hr) (by rw [List.getElem?_map, hx]; rfl)
theorem PM.rows (h : PM w B T n gU cU gF cF gR cR vs ws fs rs) (hl : ∀ r ∈ rs, r.length = 6) : RowsAt w (some ⟨gR, 0, none⟩) n rs := by
  refine ⟨h.vn.2, fun k r hr => ?_⟩
  have hk : k < rs.length := (List.getElem?_eq_some_iff.1 hr).1
  obtain ⟨p, hp⟩ : ∃ p, vs[k]? = some p := ⟨_, List.getElem?_eq_getElem (by rw [h.vl]; exact hk)⟩
  have h6 := hl r (List.mem_of_getElem? hr)
  have ho := h.row k p r hp hr
  refine ⟨gR, 0, some ⟨p.1, 0, none⟩, p.2, rfl, (ownG_far h.r).2, ?_, ?_, by omega⟩
  · rw [Nat.zero_add, h6]; exact h.cellR hp
  · rw [h6]; exact (OwnAt.farInts ho).ints
theorem PM.base (h : PM w B T n gU cU gF cF gR cR vs ws fs rs) {p : Nat × Nat} (hp : p ∈ vs) : B ≤ p.1 := by
  obtain ⟨j, hj, he⟩ := List.getElem_of_mem hp
  have hr : rs[j]? = some (rs[j]'(by rw [← h.vl]; exact hj)) := List.getElem?_eq_getElem _
  exact (ownG_far (h.row j p _ (by rw [List.getElem?_eq_getElem hj, he]) hr)).1
/-- What is written outside the blocks B .. T touches none of it. -/
theorem PM.far (h : PM w B T n gU cU gF cF gR cR vs ws fs rs) (hb : ∀ k, B ≤ k → k < T → w'.heap[k]? = w.heap[k]?) : PM w' B T n gU cU gF cF gR cR vs ws fs rs :=
  ⟨ownG_blk h.u (hb _ (ownG_far h.u).1 h.low.1), ownG_blk h.f (hb _ (ownG_far h.f).1 h.low.2.1), ownG_blk h.r (hb _ (ownG_far h.r).1 h.low.2.2.1), h.vl,
    fun j p r hp hr => ownG_blk (h.row j p r hp hr) (hb _ (h.base (List.mem_of_getElem? hp)) (h.low.2.2.2 p (List.mem_of_getElem? hp))), h.dUF, h.dUR, h.dFR, h.dV, h.inj, h.low⟩
theorem PM.below (h : PM w B T n gU cU gF cF gR cR vs ws fs rs) (hb : Below T w w') : PM w' B T n gU cU gF cF gR cR vs ws fs rs := h.far fun k _ hk => hb.block k hk
theorem PM.top {T' : Nat} (h : PM w B T n gU cU gF cF gR cR vs ws fs rs) (ht : T ≤ T') : PM w B T' n gU cU gF cF gR cR vs ws fs rs :=
  ⟨h.u, h.f, h.r, h.vl, h.row, h.dUF, h.dUR, h.dFR, h.dV, h.inj, by have := h.low; exact ⟨by omega, by omega, by omega, fun p hp => by have := this.2.2.2 p hp; omega⟩⟩
theorem PM.setU (h : PM w B T n gU cU gF cF gR cR vs ws fs rs) (k : Nat) (z : Int) : PM (w.setCell ⟨gU, k, none⟩ (.int .i64 z)) B T n gU cU gF cF gR cR vs (ws.set k z) fs rs :=
  ⟨by rw [List.map_set]; exact ownG_set h.u k _, ownG_blk h.f (blk_other _ _ _ h.dUF.symm), ownG_blk h.r (blk_other _ _ _ h.dUR.symm), h.vl,
    fun j p r hp hr => ownG_blk (h.row j p r hp hr) (blk_other _ _ _ (h.dV p (List.mem_of_getElem? hp)).1), h.dUF, h.dUR, h.dFR, h.dV, h.inj, h.low⟩
theorem PM.setF (h : PM w B T n gU cU gF cF gR cR vs ws fs rs) (k : Nat) (z : Int) : PM (w.setCell ⟨gF, k, none⟩ (.int .i64 z)) B T n gU cU gF cF gR cR vs ws (fs.set k z) rs :=
  ⟨ownG_blk h.u (blk_other _ _ _ h.dUF), by rw [List.map_set]; exact ownG_set h.f k _, ownG_blk h.r (blk_other _ _ _ h.dFR.symm), h.vl,
    fun j p r hp hr => ownG_blk (h.row j p r hp hr) (blk_other _ _ _ (h.dV p (List.mem_of_getElem? hp)).2.1), h.dUF, h.dUR, h.dFR, h.dV, h.inj, h.low⟩
theorem PM.setRow (h : PM w B T n gU cU gF cF gR cR vs ws fs rs) {k : Nat} {p : Nat × Nat} (hp : vs[k]? = some p) (j : Nat) (z : Int) : PM (w.setCell ⟨p.1, j, none⟩ (.int .i64 z)) B T n gU cU gF cF gR cR vs ws fs (rs.set k ((rs.getD k []).set j z)) := by
  have hd := h.dV p (List.mem_of_getElem? hp)
  refine ⟨ownG_blk h.u (blk_other _ _ _ hd.1.symm), ownG_blk h.f (blk_other _ _ _ hd.2.1.symm), ownG_blk h.r (blk_other _ _ _ hd.2.2.symm), by rw [List.length_set]; exact h.vl, fun i q r hq hr => ?_, h.dUF, h.dUR, h.dFR, h.dV, h.inj, h.low⟩
  by_cases hik : k = i
  · subst hik
    rw [hp] at hq; injection hq with hq; subst hq
    have hk : k < rs.length := by rw [← h.vl]; exact (List.getElem?_eq_some_iff.1 hp).1
    rw [List.getElem?_set_self hk] at hr
    injection hr with hr; subst hr
    have e : rs[k]? = some (rs.getD k []) := by rw [List.getD_eq_getElem?_getD, List.getElem?_eq_getElem hk]; rfl
    rw [List.map_set]
    exact ownG_set (h.row k p _ hp e) j _
  · rw [List.getElem?_set_ne hik] at hr
    exact ownG_blk (h.row i q r hq hr) (blk_other _ _ _ (h.inj i k q p hq hp (fun e => hik e.symm)))
theorem PM.getV (h : PM w B T n gU cU gF cF gR cR vs ws fs rs) {k : Nat} (hk : k < n) : ∃ p : Nat × Nat, vs[k]? = some p := ⟨_, List.getElem?_eq_getElem (by rw [h.vn.1]; exact hk)⟩
end

/-- Lists and how they lie, for a state of the plain computation. -/
def PMx (w : World) (B T n gU cU gF cF gR cR : Nat) (vs : List (Nat × Nat)) (x : MS) : Prop := PM w B T n gU cU gF cF gR cR vs x.ws x.fs x.rs

theorem blk_grow {w w' : World} {o : Obj} {q : Option Nat} {k : Nat} (hg : (w.alloc o).grownBy w' q) (hk : k < w.heap.size) (hq : some k ≠ q) : w'.heap[k]? = w.heap[k]? :=
  (hg.block k (by simp; omega) hq).trans (Below.heap_alloc w o k hk)
theorem own0S {w1 : World} {base : Nat} (h : base ≤ w1.heap.size) : (w1.alloc (.cells #[] 23)).ownsRow base 23 1 (.slice (some ⟨w1.heap.size, 0, none⟩) 0 0) 0 [] :=
  ⟨rfl, .inr ⟨w1.heap.size, 0, #[], rfl, h, Whole.new w1 23 [], Nat.le_refl _, by unfold maxLen; omega, rfl, rfl⟩⟩
/-- One number more behind a list of the call's own: what else lies where it lay. -/
theorem wpList_moreG {ops : Array Oper} {rest : List Oper} {o : Oper} {a : Act} {Q : Exit → Act → World → Prop} {base : Nat} {wr : World} (hgd : o.guard = none) (s x : Operand)
    (ho : o.op = .call { callee := .builtin .append, args := #[s, x], argTypes := #[23, 23] })
    {v : Value} {n : Nat} {xs : List Int} (hbase : base ≤ wr.heap.size) (hown : wr.ownsRow base 3 1 v n (xs.map (Value.int .i64))) (z : Int) (hs : a.eval s = v)
    (hx : a.eval x = .slice (some ⟨wr.heap.size, 0, none⟩) 1 1) (hn : n ≤ 1048576)
    (h : ∀ g cap w', w'.ownsRow base 3 1 (.slice (some ⟨g, 0, none⟩) (n + 1) cap) (n + 1) ((xs ++ [z]).map (Value.int .i64)) → (wr.alloc (.cells #[.int .i64 z] 3)).grownBy w' v.ownBlock → (v.ownBlock = some g ∨ g = wr.heap.size + 1) → wpList Try.prog ops Q rest (a.put o.dst (.slice (some ⟨g, 0, none⟩) (n + 1) cap)) w') :
    wpList Try.prog ops Q (o :: rest) a (wr.alloc (.cells #[.int .i64 z] 3)) := by
  obtain ⟨i0, hi, hz0, hz1, hz2⟩ := info_parts int_info
  refine wpList_append_lies _ hgd s x 23 ho base 3 i0 (.int .i64 0) 1 8 Try.underlying23 hi hz0 hz1 hz2 rfl (by decide) v n _ hs (hown.alloc _) ⟨wr.heap.size, 0, none⟩ 1 1 [.int .i64 z] hx rfl (new_cells wr _ [.int .i64 z]) ?_ (by omega) (by unfold maxLen; omega) (by omega) (by simp; omega) (wr.heap.size + 1) (by simp) ?_
  · intro u hu
    simp at hu; subst hu; rfl
  intro g cap w' hown' hgrow hg _
  exact h g cap w' (by rw [List.map_append]; exact hown') hgrow hg
/-- One list more behind a list of lists of the call's own. -/
theorem wpList_moreS {ops : Array Oper} {rest : List Oper} {o : Oper} {a : Act} {Q : Exit → Act → World → Prop} {base : Nat} {wr : World} (hgd : o.guard = none) (s x : Operand)
    (ho : o.op = .call { callee := .builtin .append, args := #[s, x], argTypes := #[25, 25] })
    {v : Value} {n : Nat} {vs : List Value} (hbase : base ≤ wr.heap.size) (hown : wr.ownsRow base 23 1 v n vs) (z : Value) (hz : z.oneCell' = true) (hs : a.eval s = v)
    (hx : a.eval x = .slice (some ⟨wr.heap.size, 0, none⟩) 1 1) (hn : n ≤ 1048576)
    (h : ∀ g cap w', w'.ownsRow base 23 1 (.slice (some ⟨g, 0, none⟩) (n + 1) cap) (n + 1) (vs ++ [z]) → (wr.alloc (.cells #[z] 23)).grownBy w' v.ownBlock → (v.ownBlock = some g ∨ g = wr.heap.size + 1) → wpList Try.prog ops Q rest (a.put o.dst (.slice (some ⟨g, 0, none⟩) (n + 1) cap)) w') :
    wpList Try.prog ops Q (o :: rest) a (wr.alloc (.cells #[z] 23)) := by
  obtain ⟨i0, hi, hz0, hz1, hz2⟩ := info_parts intsl_info
  refine wpList_append_lies _ hgd s x 25 ho base 23 i0 (.slice none 0 0) 1 24 Try.underlying25 hi hz0 hz1 hz2 rfl (by decide) v n _ hs (hown.alloc _) ⟨wr.heap.size, 0, none⟩ 1 1 [z] hx rfl (new_cells wr _ [z]) ?_ (by omega) (by unfold maxLen; omega) (by omega) (by simp; omega) (wr.heap.size + 1) (by simp) ?_
  · intro u hu
    simp at hu; subst hu; exact hz
  intro g cap w' hown' hgrow hg _
  exact h g cap w' hown' hgrow hg

/-- The lists while the rates are being gathered. -/
structure PA (w : World) (B n gU cU gR cR : Nat) (vs : List (Nat × Nat)) (ws : List Int) (rs : List (List Int)) : Prop where
  u : w.ownsRow B 3 1 (.slice (some ⟨gU, 0, none⟩) n cU) n (ws.map (Value.int .i64))
  r : w.ownsRow B 23 1 (.slice (some ⟨gR, 0, none⟩) n cR) n (vs.map rowV)
  vl : vs.length = rs.length
  row : ∀ (j : Nat) (p : Nat × Nat) (r : List Int), vs[j]? = some p → rs[j]? = some r → w.ownsRow B 3 1 (rowV p) 6 (r.map (Value.int .i64))
  dUR : gU ≠ gR
  dV : ∀ p ∈ vs, p.1 ≠ gU ∧ p.1 ≠ gR
  inj : ∀ (i j : Nat) (p q : Nat × Nat), vs[i]? = some p → vs[j]? = some q → i ≠ j → p.1 ≠ q.1
section
variable {w w' : World} {B n gU cU gR cR : Nat} {vs : List (Nat × Nat)} {ws : List Int} {rs : List (List Int)}
theorem PA.lt (h : PA w B n gU cU gR cR vs ws rs) : gU < w.heap.size ∧ gR < w.heap.size ∧ ∀ p ∈ vs, p.1 < w.heap.size := by
  refine ⟨(ownG_far h.u).2, (ownG_far h.r).2, fun p hp => ?_⟩
  obtain ⟨j, hj, he⟩ := List.getElem_of_mem hp
  have hr : rs[j]? = some (rs[j]'(by rw [← h.vl]; exact hj)) := List.getElem?_eq_getElem _
  exact (ownG_far (h.row j p _ (by rw [List.getElem?_eq_getElem hj, he]) hr)).2
theorem PA.below (h : PA w B n gU cU gR cR vs ws rs) (hb : Below w.heap.size w w') : PA w' B n gU cU gR cR vs ws rs :=
  ⟨ownG_blk h.u (hb.block _ h.lt.1), ownG_blk h.r (hb.block _ h.lt.2.1), h.vl, fun j p r hp hr => ownG_blk (h.row j p r hp hr) (hb.block _ (h.lt.2.2 p (List.mem_of_getElem? hp))), h.dUR, h.dV, h.inj⟩
theorem PA.belowN {N : Nat} (h : PA w B n gU cU gR cR vs ws rs) (hN : w.heap.size ≤ N) (hb : Below N w w') : PA w' B n gU cU gR cR vs ws rs :=
  h.below ⟨hb.os, hb.tape, hb.output, hb.size, fun k hk => hb.block k (by omega)⟩
theorem PA.keepR (h : PA w B n gU cU gR cR vs ws rs) {o : Obj} (hg : (w.alloc o).grownBy w' (some gU)) : w'.ownsRow B 23 1 (.slice (some ⟨gR, 0, none⟩) n cR) n (vs.map rowV) :=
  ownG_blk h.r (blk_grow hg h.lt.2.1 (by have := h.dUR; simp; omega))
theorem PA.next {w1 w2 : World} {gU' cU' gR' cR' : Nat} {p : Nat × Nat} {r : List Int} {z : Int} {o1 o2 : Obj} (h : PA w B n gU cU gR cR vs ws rs) (hrow : w.ownsRow B 3 1 (rowV p) 6 (r.map (Value.int .i64))) (hpU : p.1 ≠ gU) (hpR : p.1 ≠ gR)
    (hpv : ∀ q ∈ vs, q.1 ≠ p.1) (hu : w1.ownsRow B 3 1 (.slice (some ⟨gU', 0, none⟩) (n + 1) cU') (n + 1) ((ws ++ [z]).map (Value.int .i64))) (hg1 : (w.alloc o1).grownBy w1 (some gU)) (he1 : some gU = some gU' ∨ gU' = w.heap.size + 1)
    (hr : w2.ownsRow B 23 1 (.slice (some ⟨gR', 0, none⟩) (n + 1) cR') (n + 1) (vs.map rowV ++ [rowV p])) (hg2 : (w1.alloc o2).grownBy w2 (some gR)) (he2 : some gR = some gR' ∨ gR' = w1.heap.size + 1) :
    PA w2 B (n + 1) gU' cU' gR' cR' (vs ++ [p]) (ws ++ [z]) (rs ++ [r]) := by
  have hlt := h.lt
  have hpl := (ownG_far hrow).2
  have hs1 := hg1.size
  have hs2 := hg2.size
  simp at hs1 hs2
  have hd := h.dUR
  have hU'lt := (ownG_far hu).2
  have hUR : gU' ≠ gR := by rcases he1 with e | e
                            · injection e with e; omega
                            · omega
  have key : ∀ q : Nat, q < w.heap.size → q ≠ gU → q ≠ gR → w2.heap[q]? = w.heap[q]? := fun q h1 h2 h3 =>
    (blk_grow hg2 (by omega) (by simp; omega)).trans (blk_grow hg1 h1 (by simp; omega))
  have hfar : ∀ q : Nat, q < w.heap.size → q ≠ gU → q ≠ gR → q ≠ gU' ∧ q ≠ gR' := fun q h1 h2 h3 => by
    refine ⟨?_, ?_⟩
    · rcases he1 with e | e
      · injection e with e; omega
      · omega
    · rcases he2 with e | e
      · injection e with e; omega
      · omega
  refine ⟨ownG_blk hu (blk_grow hg2 hU'lt (by simp; omega)), by rw [List.map_append]; exact hr, by simp [h.vl], fun j q x hq hx => ?_, ?_, fun q hq => ?_, fun i j a b ha hb hij => ?_⟩
  · by_cases hj : j < vs.length
    · rw [List.getElem?_append_left hj] at hq
      rw [List.getElem?_append_left (by rw [← h.vl]; exact hj)] at hx
      have hm := List.mem_of_getElem? hq
      exact ownG_blk (h.row j q x hq hx) (key _ (hlt.2.2 q hm) (h.dV q hm).1 (h.dV q hm).2)
    · rw [List.getElem?_append_right (by omega)] at hq
      rw [List.getElem?_append_right (by rw [← h.vl]; omega)] at hx
      rw [← h.vl] at hx
      cases hz : j - vs.length with
      | zero =>
        rw [hz] at hq hx; simp at hq hx; subst hq; subst hx
        exact ownG_blk hrow (key _ hpl hpU hpR)
      | succ d => rw [hz] at hq; simp at hq
  · rcases he2 with e | e
    · injection e with e; omega
    · omega
  · rcases List.mem_append.1 hq with hq | hq
    · exact hfar _ (hlt.2.2 q hq) (h.dV q hq).1 (h.dV q hq).2
    · simp at hq; subst hq; exact hfar _ hpl hpU hpR
  · have hcase : ∀ (i : Nat) (a : Nat × Nat), (vs ++ [p])[i]? = some a → (i < vs.length ∧ vs[i]? = some a) ∨ (i = vs.length ∧ a = p) := by
      intro i a ha
      by_cases hi : i < vs.length
      · rw [List.getElem?_append_left hi] at ha; exact .inl ⟨hi, ha⟩
      · rw [List.getElem?_append_right (by omega)] at ha
        cases hz : i - vs.length with
        | zero => rw [hz] at ha; simp at ha; exact .inr ⟨by omega, ha.symm⟩
        | succ d => rw [hz] at ha; simp at ha
    rcases hcase i a ha with ⟨h1, h2⟩ | ⟨h1, h2⟩
    · rcases hcase j b hb with ⟨h3, h4⟩ | ⟨h3, h4⟩
      · exact h.inj i j a b h2 h4 hij
      · subst h4; exact hpv a (List.mem_of_getElem? h2)
    · rcases hcase j b hb with ⟨h3, h4⟩ | ⟨h3, h4⟩
      · subst h2; exact (hpv b (List.mem_of_getElem? h4)).symm
      · omega
/-- With the feed beside them. -/
theorem PA.with_feed {T gF cF : Nat} {fs : List Int} (h : PA w B n gU cU gR cR vs ws rs) (hb : Below w.heap.size w w') (hf : w'.ownsRow w.heap.size 3 1 (.slice (some ⟨gF, 0, none⟩) 6 cF) 6 (fs.map (Value.int .i64))) (hB : B ≤ w.heap.size) (hT : T = w'.heap.size) :
    PM w' B T n gU cU gF cF gR cR vs ws fs rs := by
  have h2 := h.below hb
  have hl := h.lt
  have hl2 := h2.lt
  have hF := ownG_far hf
  have hf2 : w'.ownsRow B 3 1 (.slice (some ⟨gF, 0, none⟩) 6 cF) 6 (fs.map (Value.int .i64)) := by
    refine ⟨hf.1, ?_⟩
    rcases hf.2 with hv | ⟨g, c, cur, h1, h3, h4⟩
    · exact .inl hv
    · exact .inr ⟨g, c, cur, h1, by omega, h4⟩
  exact ⟨h2.u, hf2, h2.r, h2.vl, h2.row, by omega, h2.dUR, by omega, fun p hp => ⟨(h2.dV p hp).1, by have := hl.2.2 p hp; omega, (h2.dV p hp).2⟩, h2.inj, by subst hT; exact ⟨hl2.1, hF.2, hl2.2.1, hl2.2.2⟩⟩
end

/-- The plan so far and the row that is being filled, beside the lists in blocks B .. T. -/
structure SO (w wr : World) (b0 B T gO cO k : Nat) (gs : List Nat) (rows : List (List Int)) (gW h : Nat) (row : List Int) : Prop where
  out : wr.ownsRow b0 23 1 (.slice (some ⟨gO, 0, none⟩) k cO) k (outc gs rows).flatten
  ro : RowsOwn wr T gW gs rows
  pos : gO < B ∨ T ≤ gO
  ne : gO ≠ gW
  nin : ∀ g ∈ gs, g ≠ gO
  fill : Fill wr gW 3 1 6 h (ic row)
  top : T ≤ gW
  bel : Below b0 w wr
  b0B : b0 ≤ B
section
variable {w wr : World} {b0 B T gO cO k : Nat} {gs : List Nat} {rows : List (List Int)} {gW h : Nat} {row : List Int}
theorem SO.low (s : SO w wr b0 B T gO cO k gs rows gW h row) {p : Addr} (h1 : B ≤ p.block) (h2 : p.block < T) (v : Value) : SO w (wr.setCell p v) b0 B T gO cO k gs rows gW h row :=
  ⟨ownG_blk s.out (blk_other _ _ _ (by have := s.pos; omega)), s.ro.low h2 v, s.pos, s.ne, s.nin, s.fill.far (by have := s.top; omega) v, s.top, s.bel.setCell (by have := s.b0B; omega) v, s.b0B⟩
theorem RowsOwn.high {w : World} {base top : Nat} {gs : List Nat} {rows : List (List Int)} (h : RowsOwn w base top gs rows) {p : Addr} (hp : top ≤ p.block) (v : Value) : RowsOwn (w.setCell p v) base top gs rows :=
  ⟨h.len, fun j g r hg hr => by obtain ⟨h1, h2, h3⟩ := h.each j g r hg hr; exact ⟨h1, h2, h3.far (by omega) v⟩, h.up⟩
theorem SO.put (s : SO w wr b0 B T gO cO k gs rows gW h row) (hh : h < 6) (z : Int) (hb : b0 ≤ gW) : SO w (wr.setCell ⟨gW, h, none⟩ (.int .i64 z)) b0 B T gO cO k gs rows gW (h + 1) (row ++ [z]) :=
  ⟨ownG_blk s.out (blk_other _ _ _ s.ne), s.ro.high (Nat.le_refl _) _, s.pos, s.ne, s.nin, by simpa [ic] using s.fill.next1 hh (.int .i64 z), s.top, s.bel.setCell hb _, s.b0B⟩
theorem SO.belowN {w' : World} (s : SO w wr b0 B T gO cO k gs rows gW h row) (hb : Below wr.heap.size wr w') (hg : gO < wr.heap.size) : SO w w' b0 B T gO cO k gs rows gW h row :=
  ⟨ownG_blk s.out (hb.block _ hg), s.ro.belowN hb (Nat.le_of_lt s.fill.lt), s.pos, s.ne, s.nin, s.fill.below hb, s.top, s.bel.trans (hb.mono (by have := ownG_far s.out; omega)), s.b0B⟩
end

/-- The plan so far, between two rows. -/
structure SO0 (w wr : World) (b0 B T gO cO k : Nat) (gs : List Nat) (rows : List (List Int)) : Prop where
  out : wr.ownsRow b0 23 1 (.slice (some ⟨gO, 0, none⟩) k cO) k (outc gs rows).flatten
  ro : RowsOwn wr T wr.heap.size gs rows
  pos : gO < B ∨ T ≤ gO
  nin : ∀ g ∈ gs, g ≠ gO
  top : T ≤ wr.heap.size
  bel : Below b0 w wr
  b0B : b0 ≤ B
section
variable {w wr : World} {b0 B T gO cO k : Nat} {gs : List Nat} {rows : List (List Int)} {gW h : Nat} {row : List Int}
theorem SO0.start (s : SO0 w wr b0 B T gO cO k gs rows) :
    SO w (wr.alloc (.cells #[.int .i64 0, .int .i64 0, .int .i64 0, .int .i64 0, .int .i64 0, .int .i64 0] 3)) b0 B T gO cO k gs rows wr.heap.size 0 [] := by
  have hg := ownG_far s.out
  have hW := Whole.new wr 3 [.int .i64 0, .int .i64 0, .int .i64 0, .int .i64 0, .int .i64 0, .int .i64 0]
  exact ⟨ownG_blk s.out (Below.heap_alloc wr _ _ hg.2), s.ro.alloc _, s.pos, by omega, s.nin, hW.fill0 rfl, s.top, s.bel.alloc (by omega) _, s.b0B⟩
theorem SO.next {w' : World} {gO' cO' : Nat} {o : Obj} (s : SO w wr b0 B T gO cO k gs rows gW 6 row) (hl : row.length = 6) (hown : w'.ownsRow b0 23 1 (.slice (some ⟨gO', 0, none⟩) (k + 1) cO') (k + 1) ((outc gs rows).flatten ++ [slv gW 6]))
    (hg : (wr.alloc o).grownBy w' (some gO)) (he : some gO = some gO' ∨ gO' = wr.heap.size + 1) : SO0 w w' b0 B T gO' cO' (k + 1) (gs ++ [gW]) (rows ++ [row]) := by
  have hgO := ownG_far s.out
  have hWl := s.fill.lt
  have hsz := hg.size
  simp at hsz
  have hne := s.ne
  have hpos := s.pos
  have htop := s.top
  have hgl : ∀ g ∈ gs, g < gW := fun g hm => by
    obtain ⟨j, hj, he⟩ := List.getElem_of_mem hm
    have hr : rows[j]? = some (rows[j]'(by rw [← s.ro.len]; exact hj)) := List.getElem?_eq_getElem _
    exact (s.ro.each j g _ (by rw [List.getElem?_eq_getElem hj, he]) hr).2.1
  have hW : Whole w' gW 3 (row.map (Value.int .i64)) := by
    have h1 := s.fill.whole rfl
    rw [ic_flat] at h1
    exact (blk_grow hg hWl (by simp; omega)).trans h1
  have hro : RowsOwn w' T gW gs rows := ⟨s.ro.len, fun j g r h1 h2 => by
    obtain ⟨e1, e2, e3⟩ := s.ro.each j g r h1 h2
    have := s.nin g (List.mem_of_getElem? h1)
    exact ⟨e1, e2, (blk_grow hg (by omega) (by simp; omega)).trans e3⟩, s.ro.up⟩
  refine ⟨?_, (hro.snoc (r := row) (by omega) (Nat.le_refl _) hW).top (by omega), ?_, fun g hm => ?_, by omega, (s.bel.alloc (by omega) o).grown hg (by simp; omega) (fun q hq => by injection hq with hq; omega), s.b0B⟩
  · rw [outc_snoc s.ro.len, hl, List.flatten_append]; simpa using hown
  · rcases he with e | e
    · injection e with e; omega
    · omega
  · have hgO' : gO' = gO ∨ gO' = wr.heap.size + 1 := by
      rcases he with e | e
      · injection e with e; omega
      · omega
    rcases List.mem_append.1 hm with hm | hm
    · have h1 := hgl g hm
      have h2 := s.nin g hm
      omega
    · simp at hm; omega
theorem PM.over {n gU cU gF cF gR cR : Nat} {vs : List (Nat × Nat)} {ws fs : List Int} {rs : List (List Int)} {w' : World} {o : Obj} {p : Nat} (h : PM wr B T n gU cU gF cF gR cR vs ws fs rs) (hg : (wr.alloc o).grownBy w' (some p)) (hp : p < B ∨ T ≤ p) (hT : T ≤ wr.heap.size) : PM w' B T n gU cU gF cF gR cR vs ws fs rs :=
  h.far fun k h1 h2 => blk_grow hg (by omega) (by simp; omega)
end
end Go.Proofs.Ytecjhomfoakaeaa
