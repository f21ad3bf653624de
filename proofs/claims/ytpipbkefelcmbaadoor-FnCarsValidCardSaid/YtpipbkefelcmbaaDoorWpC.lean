/-
  append at one operation of a region whose order is drawn: a list copied behind an empty one, one element behind a list.
-/
import Derived.Test.YtpipbkefelcmbaaDoorDrCars
namespace Go.Proofs.YtpipbkefelcmbaaDoor
open Go.ChangeShapes Go.WideShapes Go.ChangeAt Go.RowKit

theorem wp_copyC {o : Oper} {a : Act} {K : Act → World → Prop} {Q : Exit → Act → World → Prop} {w : World} (s x : Operand)
    (ho : o.op = .call { callee := .builtin .append, args := #[s, x], argTypes := #[37, 37] })
    {B E b2 g n gc : Nat} {ns : List C4} (h0 : w.ownsRow B 24 4 (.slice (some ⟨E, 0, none⟩) 0 0) 0 []) (hB : B ≤ w.heap.size) (hg : OwnAt w b2 24 4 (.slice (some ⟨g, 0, none⟩) n gc) n (cc ns))
    (hs : a.eval s = .slice (some ⟨E, 0, none⟩) 0 0) (hx : a.eval x = .slice (some ⟨g, 0, none⟩) n gc) (hn : n ≤ 1048576)
    (h : ∀ v' w', w'.ownsRow B 24 4 v' n (cc ns).flatten → w.grownBy w' (some E) → K (a.put o.dst v') w') : o.wp Tryd.prog a w K Q := by
  obtain ⟨i0, hi, hz0, hz1, hz2⟩ := info_parts car_info
  refine wp_append_own w s x 37 ho B 24 i0 (.agg #[.int .i64 0, .int .i64 0, .int .i64 0, .int .i64 0]) 4 32 Tryd.underlying37 hi hz0 hz1 hz2 rfl (by decide) (.slice (some ⟨E, 0, none⟩) 0 0) 0 [] hs h0 ⟨g, 0, none⟩ n gc (cc ns).flatten hx hg.own.1 ?_ ?_ (by unfold maxLen; omega) (by omega) hB ?_
  · intro j u hu
    exact hg.own.cells (g := g) rfl j u hu
  · intro u hu
    obtain ⟨r, hr, hur⟩ := List.mem_flatten.1 hu
    obtain ⟨y, _, rfl⟩ := List.mem_map.1 hr
    simp at hur
    rcases hur with rfl | rfl | rfl | rfl <;> rfl
  · intro v' w' hown' hgrow _
    exact h v' w' (by simpa using hown') hgrow
theorem wp_pushC {o : Oper} {a : Act} {K : Act → World → Prop} {Q : Exit → Act → World → Prop} {w : World} (s x : Operand)
    (ho : o.op = .call { callee := .builtin .append, args := #[s, x], argTypes := #[37, 37] })
    {B N n : Nat} {v : Value} {ns : List C4} {z : C4} (hown : w.ownsRow B 24 4 v n (cc ns).flatten) (hB : B ≤ w.heap.size) (hN : Whole w N 24 [.int .i64 z.f, .int .i64 z.t, .int .i64 z.r, .int .i64 z.u])
    (hs : a.eval s = v) (hx : a.eval x = .slice (some ⟨N, 0, none⟩) 1 1) (hn : n ≤ 1048576)
    (h : ∀ g cap w', w'.ownsRow B 24 4 (.slice (some ⟨g, 0, none⟩) (n + 1) cap) (n + 1) (cc (ns ++ [z])).flatten → w.grownBy w' v.ownBlock → K (a.put o.dst (.slice (some ⟨g, 0, none⟩) (n + 1) cap)) w') : o.wp Tryd.prog a w K Q := by
  obtain ⟨i0, hi, hz0, hz1, hz2⟩ := info_parts car_info
  refine wp_append_lies w s x 37 ho B 24 i0 (.agg #[.int .i64 0, .int .i64 0, .int .i64 0, .int .i64 0]) 4 32 Tryd.underlying37 hi hz0 hz1 hz2 rfl (by decide) v n _ hs hown ⟨N, 0, none⟩ 1 1 [.int .i64 z.f, .int .i64 z.t, .int .i64 z.r, .int .i64 z.u] hx rfl (World.news_of_block hN) ?_ (by omega) (by unfold maxLen; omega) (by omega) hB _ rfl ?_
  · intro u hu
    simp at hu
    rcases hu with rfl | rfl | rfl | rfl <;> rfl
  intro g cap w' hown' hgrow _ _
  have e : (cc (ns ++ [z])).flatten = (cc ns).flatten ++ [.int .i64 z.f, .int .i64 z.t, .int .i64 z.r, .int .i64 z.u] := by simp [cc]
  exact h g cap w' (by rw [e]; exact hown') hgrow
theorem Whole.grow {w w' : World} {N : Nat} {e : TypeId} {cs : List Value} {q : Option Nat} (h : Whole w N e cs) (hg : w.grownBy w' q) (hq : q ≠ some N) : Whole w' N e cs := by
  exact (hg.block N h.lt (fun e => hq e.symm)).trans h
end Go.Proofs.YtpipbkefelcmbaaDoor
