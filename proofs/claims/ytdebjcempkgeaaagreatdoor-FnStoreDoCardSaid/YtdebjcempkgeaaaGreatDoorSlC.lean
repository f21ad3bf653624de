/-
  Lists of slides in memory: one slide more.
-/
import Derived.Test.YtdebjcempkgeaaaGreatDoorOwnG
import Derived.Test.YtdebjcempkgeaaaGreatDoorWpI
import Derived.Test.YtdebjcempkgeaaaGreatDoorHoleP
namespace Go.Proofs.YtdebjcempkgeaaaGreatDoor
open Go.ChangeShapes Go.WideShapes Go.ChangeAt Go.RowKit

/-- The cells of slides. -/
def slc (l : List (Nat × Nat)) : List (List Value) := l.map fun p => [.int .i64 (p.1 : Int), .int .i64 (p.2 : Int)]
theorem slc_snoc (l : List (Nat × Nat)) (p : Nat × Nat) : (slc (l ++ [p])).flatten = (slc l).flatten ++ [.int .i64 (p.1 : Int), .int .i64 (p.2 : Int)] := by simp [slc]
theorem own_slides {w : World} {base n : Nat} {v : Value} {ns : List (Nat × Nat)} (h : w.ownsRow base 62 2 v n (slc ns).flatten) (hl : ns.length = n) : OwnAt w base 62 2 v n (slc ns) :=
  ⟨h, by simpa [slc] using hl, by intro r hr; simp [slc] at hr; obtain ⟨x, y, _, rfl⟩ := hr; rfl⟩
theorem ownS0 {w1 : World} {base : Nat} (h : base ≤ w1.heap.size) : (w1.alloc (.cells #[] 62)).ownsRow base 62 2 (.slice (some ⟨w1.heap.size, 0, none⟩) 0 0) 0 [] :=
  ⟨rfl, .inr ⟨w1.heap.size, 0, #[], rfl, h, Whole.new w1 62 [], Nat.le_refl _, by unfold maxLen; omega, rfl, rfl⟩⟩
theorem slide_info : (Tryz.prog.info? 62).map (fun i => (i.zero, i.size, i.bytes)) = some (some (.agg #[.int .i64 0, .int .i64 0]), 2, 16) := by kernel_rfl
/-- Slides in memory, read. -/
def SlidesAt (w : World) (A : Option Addr) (m : Nat) (l : List (Nat × Nat)) : Prop := SlAt w 2 A m (slc l)
theorem SlidesAt.below {w w' : World} {A : Option Addr} {m : Nat} {l : List (Nat × Nat)} (h : SlidesAt w A m l) (hb : Below w.heap.size w w') : SlidesAt w' A m l := SlAt.below h hb
theorem SlidesAt.get {w : World} {A : Option Addr} {m k : Nat} {l : List (Nat × Nat)} (h : SlidesAt w A m l) (hk : k < m) :
    ∃ (p : Nat × Nat) (b off : Nat), Hid (l[k]? = some p) ∧ A = some ⟨b, off, none⟩ ∧ b < w.heap.size ∧ w.cell? ⟨b, off + k * 2, none⟩ = some (.int .i64 (p.1 : Int)) ∧ w.cell? ⟨b, off + k * 2 + 1, none⟩ = some (.int .i64 (p.2 : Int)) := by
  have hl := h.len
  have hl2 : l.length = m := by simpa [slc] using hl
  obtain ⟨p, hp⟩ : ∃ p, l[k]? = some p := ⟨_, List.getElem?_eq_getElem (by omega)⟩
  obtain ⟨b, off, hA, hlt, _, hc⟩ := SlAt.row h k [.int .i64 (p.1 : Int), .int .i64 (p.2 : Int)] (by simp [slc, hp])
  exact ⟨p, b, off, hp, hA, hlt, hc 0 _ rfl, hc 1 _ rfl⟩
set_option maxRecDepth 100000 in
/-- One slide more behind a list of the call's own. -/
theorem wpList_moreSl {ops : Array Oper} {rest : List Oper} {o : Oper} {a : Act} {Q : Exit → Act → World → Prop} {base : Nat} {wr : World} (hgd : o.guard = none) (s x : Operand)
    (ho : o.op = .call { callee := .builtin .append, args := #[s, x], argTypes := #[40, 40] })
    {v : Value} {n : Nat} {ns : List (Nat × Nat)} (hbase : base ≤ wr.heap.size) (hown : wr.ownsRow base 62 2 v n (slc ns).flatten) (z : Nat × Nat) (hs : a.eval s = v)
    (hx : a.eval x = .slice (some ⟨wr.heap.size, 0, none⟩) 1 1) (hn : n ≤ 1048576)
    (h : ∀ g cap w', w'.ownsRow base 62 2 (.slice (some ⟨g, 0, none⟩) (n + 1) cap) (n + 1) (slc (ns ++ [z])).flatten → (wr.alloc (.cells #[.int .i64 (z.1 : Int), .int .i64 (z.2 : Int)] 62)).grownBy w' v.ownBlock → (v.ownBlock = some g ∨ g = wr.heap.size + 1) → wpList Tryz.prog ops Q rest (a.put o.dst (.slice (some ⟨g, 0, none⟩) (n + 1) cap)) w') :
    wpList Tryz.prog ops Q (o :: rest) a (wr.alloc (.cells #[.int .i64 (z.1 : Int), .int .i64 (z.2 : Int)] 62)) := by
  obtain ⟨i0, hi, hz0, hz1, hz2⟩ := info_parts slide_info
  refine wpList_append_lies _ hgd s x 40 ho base 62 i0 (.agg #[.int .i64 0, .int .i64 0]) 2 16 Tryz.underlying40 hi hz0 hz1 hz2 rfl (by decide) v n _ hs (hown.alloc _) ⟨wr.heap.size, 0, none⟩ 1 1 [.int .i64 (z.1 : Int), .int .i64 (z.2 : Int)] hx rfl (new_cells wr _ [.int .i64 (z.1 : Int), .int .i64 (z.2 : Int)]) ?_ (by omega) (by unfold maxLen; omega) (by omega) (by simp; omega) (wr.heap.size + 1) (by simp) ?_
  · intro u hu
    simp at hu
    rcases hu with rfl | rfl <;> rfl
  intro g cap w' hown' hgrow hg _
  exact h g cap w' (by rw [slc_snoc]; exact hown') hgrow hg
set_option maxRecDepth 100000 in
theorem wp_pushSl {o : Oper} {a : Act} {K : Act → World → Prop} {Q : Exit → Act → World → Prop} {w : World} (s x : Operand)
    (ho : o.op = .call { callee := .builtin .append, args := #[s, x], argTypes := #[40, 40] })
    {B N n : Nat} {v : Value} {ns : List (Nat × Nat)} {z : Nat × Nat} (hown : w.ownsRow B 62 2 v n (slc ns).flatten) (hB : B ≤ w.heap.size) (hN : Whole w N 62 [.int .i64 (z.1 : Int), .int .i64 (z.2 : Int)])
    (hs : a.eval s = v) (hx : a.eval x = .slice (some ⟨N, 0, none⟩) 1 1) (hn : n ≤ 1048576)
    (h : ∀ g cap w', w'.ownsRow B 62 2 (.slice (some ⟨g, 0, none⟩) (n + 1) cap) (n + 1) (slc (ns ++ [z])).flatten → w.grownBy w' v.ownBlock → (v.ownBlock = some g ∨ g = w.heap.size) → K (a.put o.dst (.slice (some ⟨g, 0, none⟩) (n + 1) cap)) w') : o.wp Tryz.prog a w K Q := by
  obtain ⟨i0, hi, hz0, hz1, hz2⟩ := info_parts slide_info
  refine wp_append_lies w s x 40 ho B 62 i0 (.agg #[.int .i64 0, .int .i64 0]) 2 16 Tryz.underlying40 hi hz0 hz1 hz2 rfl (by decide) v n _ hs hown ⟨N, 0, none⟩ 1 1 [.int .i64 (z.1 : Int), .int .i64 (z.2 : Int)] hx rfl (World.news_of_block hN) ?_ (by omega) (by unfold maxLen; omega) (by omega) hB w.heap.size rfl ?_
  · intro u hu
    simp at hu
    rcases hu with rfl | rfl <;> rfl
  intro g cap w' hown' hgrow hg _
  exact h g cap w' (by rw [slc_snoc]; exact hown') hgrow hg
/-- The slides of the way from f. -/
def slW (W f k : Nat) : List (Nat × Nat) := (List.range k).map fun i => (pcN W f (i + 1), pcN W f i)
theorem slW_next (W f k : Nat) : slW W f (k + 1) = slW W f k ++ [(pcN W f (k + 1), pcN W f k)] := by unfold slW; rw [List.range_succ]; simp
theorem slW_len (W f k : Nat) : (slW W f k).length = k := by simp [slW]
theorem slW_get {W f k i : Nat} (h : i < k) : (slW W f k)[i]? = some (pcN W f (i + 1), pcN W f i) := by
  unfold slW; rw [List.getElem?_map, List.getElem?_range h]; rfl
/-- The call answers slides that it has made itself. -/
def SLI (w : World) (l : List (Nat × Nat)) (e : Ending) (w' : World) : Prop :=
  ∃ (A : Option Addr) (m c : Nat), e = .returned (.slice A m c) ∧ w'.ownsRow w.heap.size 62 2 (.slice A m c) m (slc l).flatten ∧ l.length = m ∧ Below w.heap.size w w'
theorem own_slAt {w : World} {base n c : Nat} {A : Option Addr} {l : List (Nat × Nat)} (h : w.ownsRow base 62 2 (.slice A n c) n (slc l).flatten) (hl : l.length = n) : SlidesAt w A n l ∧ n ≤ c ∧ c ≤ maxLen := by
  have ho := own_slides h hl
  obtain ⟨A', c', he, h1, h2⟩ := ho.form
  injection he with e1 e2 e3
  subst e1; subst e3
  exact ⟨ho.slAt, h1, h2⟩
end Go.Proofs.YtdebjcempkgeaaaGreatDoor
