/-
  The reference's draw of needs, a feed and a plan.
-/
import Derived.Test.YtobkljhbmeglpaaDoorSPlan
import Derived.Test.YtobkljhbmeglpaaDoorPlanP
import Derived.Test.YtobkljhbmeglpaaDoorDrNeeds
import Derived.Test.YtobkljhbmeglpaaDoorDrFeed
import Derived.BigRegion
namespace Go.Proofs.YtobkljhbmeglpaaDoor
open Go.ChangeShapes Go.WideShapes Go.ChangeAt Go.RowKit

/-- A plan in memory of the call's own, row by row in a block of its own. -/
structure PC (w : World) (B gO n cO : Nat) (gs : List Nat) (rows : List (List Int)) : Prop where
  out : w.ownsRow B 29 1 (.slice (some ⟨gO, 0, none⟩) n cO) n (gs.map fun g => slv g 6)
  len : gs.length = rows.length
  each : ∀ (j g : Nat) (r : List Int), gs[j]? = some g → rows[j]? = some r → B ≤ g ∧ g ≠ gO ∧ r.length = 6 ∧ Whole w g 3 (r.map (Value.int .i64))
  inj : ∀ (i j g : Nat), gs[i]? = some g → gs[j]? = some g → i = j
section
variable {w w' : World} {B gO n cO : Nat} {gs : List Nat} {rows : List (List Int)}
theorem PC.num (h : PC w B gO n cO gs rows) : gs.length = n ∧ rows.length = n := by
  have h1 := h.out.1
  have h2 := h.len
  rw [List.length_map, Nat.mul_one] at h1
  exact ⟨h1, by omega⟩
theorem PC.get (h : PC w B gO n cO gs rows) {j : Nat} (hj : j < n) : ∃ (g : Nat) (r : List Int), gs[j]? = some g ∧ rows[j]? = some r :=
  ⟨_, _, List.getElem?_eq_getElem (by rw [h.num.1]; exact hj), List.getElem?_eq_getElem (by rw [h.num.2]; exact hj)⟩
theorem PC.mem (h : PC w B gO n cO gs rows) {g : Nat} (hg : g ∈ gs) : B ≤ g ∧ g ≠ gO ∧ g < w.heap.size := by
  obtain ⟨j, hj, he⟩ := List.getElem_of_mem hg
  have hr : rows[j]? = some (rows[j]'(by rw [← h.len]; exact hj)) := List.getElem?_eq_getElem _
  obtain ⟨h1, h2, h3, h4⟩ := h.each j g _ (by rw [List.getElem?_eq_getElem hj, he]) hr
  exact ⟨h1, h2, h4.lt⟩
theorem PC.far (h : PC w B gO n cO gs rows) (hb : ∀ k, B ≤ k → k < w.heap.size → w'.heap[k]? = w.heap[k]?) : PC w' B gO n cO gs rows :=
  ⟨ownG_blk h.out (hb _ (ownG_far h.out).1 (ownG_far h.out).2), h.len, fun j g r hg hr => by obtain ⟨h1, h2, h3, h4⟩ := h.each j g r hg hr; exact ⟨h1, h2, h3, (hb g h1 h4.lt).trans h4⟩, h.inj⟩
theorem PC.below (h : PC w B gO n cO gs rows) (hb : Below w.heap.size w w') : PC w' B gO n cO gs rows := h.far fun k _ hk => hb.block k hk
theorem PC.fr1 {R : Nat} (h : PC w B gO n cO gs rows) (hf : Fr1 R w w') (hR : R < B) : PC w' B gO n cO gs rows := h.far fun k h1 hk => hf.block k hk (by omega)
theorem PC.cell (h : PC w B gO n cO gs rows) {j g : Nat} (hg : gs[j]? = some g) : w.cell? ⟨gO, j, none⟩ = some (slv g 6) := ownG_cell h.out (by rw [List.getElem?_map, hg]; rfl)
theorem PC.cell2 (h : PC w B gO n cO gs rows) {j g i : Nat} {r : List Int} {x : Int} (hg : gs[j]? = some g) (hr : rows[j]? = some r) (hx : r[i]? = some x) : w.cell? ⟨g, i, none⟩ = some (.int .i64 x) := by
  rw [(h.each j g r hg hr).2.2.2.cell, List.getElem?_map, hx]; rfl
/-- A number is written. -/
theorem PC.put (h : PC w B gO n cO gs rows) {j g : Nat} {r : List Int} (hg : gs[j]? = some g) (hr : rows[j]? = some r) (i : Nat) (z : Int) : PC (w.setCell ⟨g, i, none⟩ (.int .i64 z)) B gO n cO gs (rows.set j (r.set i z)) := by
  have hj := h.each j g r hg hr
  refine ⟨ownG_blk h.out (blk_other _ _ _ hj.2.1.symm), by rw [List.length_set]; exact h.len, fun a ga ra h1 h2 => ?_, h.inj⟩
  by_cases ha : j = a
  · subst ha
    rw [hg] at h1; injection h1 with h1; subst h1
    rw [List.getElem?_set_self (List.getElem?_eq_some_iff.1 hr).1] at h2
    injection h2 with h2; subst h2
    exact ⟨hj.1, hj.2.1, by rw [List.length_set]; exact hj.2.2.1, by rw [List.map_set]; exact hj.2.2.2.set_ i _⟩
  · rw [List.getElem?_set_ne ha] at h2
    obtain ⟨e1, e2, e3, e4⟩ := h.each a ga ra h1 h2
    exact ⟨e1, e2, e3, e4.far (fun e => ha (h.inj j a g hg (by rw [h1]; show some ga = some g; rw [show ga = g from e]))) _⟩
/-- Another row is put in the place of one. -/
theorem PC.swap (h : PC w B gO n cO gs rows) {j g' : Nat} {r' : List Int} (hj : j < n) (hW : Whole w g' 3 (r'.map (Value.int .i64))) (hl : r'.length = 6) (hB : B ≤ g') (hO : g' ≠ gO) (hn : g' ∉ gs) :
    PC (w.setCell ⟨gO, j, none⟩ (slv g' 6)) B gO n cO (gs.set j g') (rows.set j r') := by
  have hs := ownG_set h.out j (slv g' 6)
  rw [← List.map_set (f := fun g => slv g 6)] at hs
  refine ⟨hs, by simp [h.len], fun a ga ra h1 h2 => ?_, fun a b ga h1 h2 => ?_⟩
  · by_cases ha : j = a
    · subst ha
      rw [List.getElem?_set_self (by rw [h.num.1]; exact hj)] at h1
      rw [List.getElem?_set_self (by rw [h.num.2]; exact hj)] at h2
      injection h1 with h1; injection h2 with h2; subst h1; subst h2
      exact ⟨hB, hO, hl, hW.far hO _⟩
    · rw [List.getElem?_set_ne ha] at h1 h2
      obtain ⟨e1, e2, e3, e4⟩ := h.each a ga ra h1 h2
      exact ⟨e1, e2, e3, e4.far e2 _⟩
  · by_cases ha : j = a
    · subst ha
      rw [List.getElem?_set_self (by rw [h.num.1]; exact hj)] at h1
      injection h1 with h1; subst h1
      by_cases hb : j = b
      · exact hb
      · rw [List.getElem?_set_ne hb] at h2
        exact absurd (List.mem_of_getElem? h2) hn
    · rw [List.getElem?_set_ne ha] at h1
      by_cases hb : j = b
      · subst hb
        rw [List.getElem?_set_self (by rw [h.num.1]; exact hj)] at h2
        injection h2 with h2; subst h2
        exact absurd (List.mem_of_getElem? h1) hn
      · rw [List.getElem?_set_ne hb] at h2
        exact h.inj a b ga h1 h2
theorem PC.rowsAt (h : PC w B gO n cO gs rows) : RowsAt w (some ⟨gO, 0, none⟩) n rows := by
  refine ⟨h.num.2, fun k r hr => ?_⟩
  have hk : k < rows.length := (List.getElem?_eq_some_iff.1 hr).1
  have hg : gs[k]? = some (gs[k]'(by rw [h.len]; exact hk)) := List.getElem?_eq_getElem _
  obtain ⟨h1, h2, h3, h4⟩ := h.each k _ r hg hr
  refine ⟨gO, 0, _, 6, rfl, (ownG_far h.out).2, ?_, ints_whole h4 rfl, by omega⟩
  rw [Nat.zero_add, h.cell hg, h3]; rfl
/-- One row more. -/
theorem PC.push {gO' cO' g : Nat} {r : List Int} {o : Obj} (h : PC w B gO n cO gs rows) (hW : Whole w g 3 (r.map (Value.int .i64))) (hl : r.length = 6) (hB : B ≤ g) (hO : g ≠ gO) (hn : g ∉ gs)
    (hown : w'.ownsRow B 29 1 (.slice (some ⟨gO', 0, none⟩) (n + 1) cO') (n + 1) ((gs.map fun g => slv g 6) ++ [slv g 6])) (hg : (w.alloc o).grownBy w' (some gO)) (he : some gO = some gO' ∨ gO' = w.heap.size + 1) : PC w' B gO' (n + 1) cO' (gs ++ [g]) (rows ++ [r]) := by
  have hgl := hW.lt
  have hcase : ∀ (q : Nat), q < w.heap.size → q ≠ gO → q ≠ gO' := fun q h1 h2 => by
    rcases he with e | e
    · injection e with e; omega
    · omega
  have hidx : ∀ (i a : Nat), (gs ++ [g])[i]? = some a → (i < gs.length ∧ gs[i]? = some a) ∨ (i = gs.length ∧ a = g) := by
    intro i a ha
    by_cases hi : i < gs.length
    · rw [List.getElem?_append_left hi] at ha; exact .inl ⟨hi, ha⟩
    · rw [List.getElem?_append_right (by omega)] at ha
      cases hz : i - gs.length with
      | zero => rw [hz] at ha; simp at ha; exact .inr ⟨by omega, ha.symm⟩
      | succ d => rw [hz] at ha; simp at ha
  refine ⟨by rw [List.map_append]; exact hown, by simp [h.len], fun a ga ra h1 h2 => ?_, fun a b ga h1 h2 => ?_⟩
  · rcases hidx a ga h1 with ⟨i1, i2⟩ | ⟨i1, rfl⟩
    · rw [List.getElem?_append_left (by rw [← h.len]; exact i1)] at h2
      obtain ⟨e1, e2, e3, e4⟩ := h.each a ga ra i2 h2
      exact ⟨e1, hcase ga e4.lt e2, e3, (blk_grow hg e4.lt (by simp; omega)).trans e4⟩
    · subst i1
      rw [h.len, List.getElem?_append_right (Nat.le_refl _), Nat.sub_self] at h2
      simp at h2; subst h2
      exact ⟨hB, hcase ga hgl hO, hl, (blk_grow hg hgl (by simp; omega)).trans hW⟩
  · rcases hidx a ga h1 with ⟨i1, i2⟩ | ⟨i1, i2⟩
    · rcases hidx b ga h2 with ⟨i3, i4⟩ | ⟨i3, i4⟩
      · exact h.inj a b ga i2 i4
      · subst i4; exact absurd (List.mem_of_getElem? i2) hn
    · rcases hidx b ga h2 with ⟨i3, i4⟩ | ⟨i3, i4⟩
      · subst i2; exact absurd (List.mem_of_getElem? i4) hn
      · omega
end

/-- Six numbers a row, each from 0 to b. -/
def rowsTo (b : Nat) (rows : List (List Int)) : Prop := ∀ r ∈ rows, r.length = 6 ∧ ∀ x ∈ r, 0 ≤ x ∧ x ≤ (b : Int)
theorem rowsTo.more {b b' : Nat} {rows : List (List Int)} (h : rowsTo b rows) (hb : b ≤ b') : rowsTo b' rows := fun r hr => ⟨(h r hr).1, fun x hx => by have := (h r hr).2 x hx; omega⟩
theorem rowsTo.set {b : Nat} {rows : List (List Int)} (h : rowsTo b rows) {j i : Nat} {r : List Int} (hr : rows[j]? = some r) {z : Int} (h0 : 0 ≤ z) (h1 : z ≤ (b : Int)) : rowsTo b (rows.set j (r.set i z)) := by
  intro q hq
  rcases List.mem_or_eq_of_mem_set hq with hq | rfl
  · exact h q hq
  · have h2 := h r (List.mem_of_getElem? hr)
    refine ⟨by rw [List.length_set]; exact h2.1, fun x hx => ?_⟩
    rcases List.mem_or_eq_of_mem_set hx with hx | rfl
    · exact h2.2 x hx
    · exact ⟨h0, h1⟩
theorem rowsTo.swap {b : Nat} {rows : List (List Int)} (h : rowsTo b rows) (j : Nat) {r : List Int} (hr : r.length = 6 ∧ ∀ x ∈ r, 0 ≤ x ∧ x ≤ (b : Int)) : rowsTo b (rows.set j r) := by
  intro q hq
  rcases List.mem_or_eq_of_mem_set hq with hq | rfl
  · exact h q hq
  · exact hr
theorem rowsTo.at {b : Nat} {rows : List (List Int)} (h : rowsTo b rows) {j i : Nat} {r : List Int} {x : Int} (hr : rows[j]? = some r) (hx : r[i]? = some x) : 0 ≤ x ∧ x ≤ (b : Int) := (h r (List.mem_of_getElem? hr)).2 x (List.mem_of_getElem? hx)
theorem rowsTo.plan {b : Nat} {rows : List (List Int)} (h : rowsTo b rows) (hb : b ≤ 100) (hl : rows.length ≤ 6) : planD rows := ⟨hl, fun r hr => ⟨(h r hr).1, fun x hx => by have := (h r hr).2 x hx; omega⟩⟩
theorem planR_to (ns : List N4) (feed : List Int) : rowsTo 30 (planR ns feed) ∧ (planR ns feed).length ≤ 5 := by
  by_cases hok : needsB ns = true ∧ feedB feed = true
  · rw [planR_yes hok.1 hok.2, plan_len]
    refine ⟨fun r hr => ?_, (needsB_ok hok.1).1⟩
    unfold MS.plan at hr
    obtain ⟨k, hk, rfl⟩ := List.mem_map.1 hr
    rw [List.mem_range] at hk
    refine ⟨row_len _ _, fun x hx => ?_⟩
    unfold MS.row at hx
    obtain ⟨q, hq, rfl⟩ := List.mem_map.1 hx
    rw [List.mem_range] at hq
    have hx0 := (start_ok hok.1 hok.2).all k (by omega)
    have hx1 := hx0.run hk q (by omega)
    have h1 := ((((MS.start ns feed).all k).run k q)).pick_le k q
    have h2 := (hx1.top_le k q hk).2.1
    have h3 := small_get hx1.wsm k
    omega
  · rw [planR_no (split_okP hok)]
    exact ⟨by intro r hr; simp at hr, by simp⟩
theorem outc_six {gs : List Nat} {rows : List (List Int)} (hl : gs.length = rows.length) (h : ∀ r ∈ rows, r.length = 6) : (outc gs rows).flatten = gs.map fun g => slv g 6 := by
  induction gs generalizing rows with
  | nil => cases rows with
    | nil => rfl
    | cons r rows => simp at hl
  | cons g gs ih =>
    cases rows with
    | nil => simp at hl
    | cons r rows =>
      have e := ih (rows := rows) (by simpa using hl) fun x hx => h x (by simp [hx])
      have h6 := h r (by simp)
      unfold outc at e ⊢
      simp only [List.zipWith_cons_cons, List.flatten_cons, List.map_cons, h6]
      rw [e]; rfl
theorem PlanRes.pc {w w' : World} {g n c : Nat} {gs : List Nat} {rows : List (List Int)} (h1 : w'.ownsRow w.heap.size 29 1 (.slice (some ⟨g, 0, none⟩) n c) n (outc gs rows).flatten) (h2 : RowsOwn w' w.heap.size w'.heap.size gs rows) (h3 : ∀ x ∈ gs, x ≠ g) (h6 : ∀ r ∈ rows, r.length = 6) : PC w' w.heap.size g n c gs rows := by
  refine ⟨by rw [← outc_six h2.len h6]; exact h1, h2.len, fun j a r ha hr => ?_, fun i j a ha hb => ?_⟩
  · obtain ⟨e1, e2, e3⟩ := h2.each j a r ha hr
    exact ⟨e1, h3 a (List.mem_of_getElem? ha), h6 r (List.mem_of_getElem? hr), e3⟩
  · rcases Nat.lt_trichotomy i j with h | h | h
    · have := h2.up i j a a h ha hb; omega
    · exact h
    · have := h2.up j i a a h hb ha; omega
end Go.Proofs.YtobkljhbmeglpaaDoor
