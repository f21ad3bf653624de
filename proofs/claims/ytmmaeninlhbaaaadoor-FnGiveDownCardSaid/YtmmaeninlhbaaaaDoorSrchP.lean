/-
  The memory of the program's search for the best list.
-/
import Derived.Test.YtmmaeninlhbaaaaDoorBest
namespace Go.Proofs.YtmmaeninlhbaaaaDoor
open Go.ChangeShapes Go.WideShapes Go.ChangeAt Go.RowKit

theorem hasB_snoc (g : List Int) (y z : Int) : hasB (g ++ [y]) z = (hasB g z || decide (z = y)) := by unfold hasB; exact contains_snoc g y z
/-- Which of the six places are taken? -/
def takenH (g : List Int) : List Value := [.bool (hasB g ((0 : Nat) : Int)), .bool (hasB g ((1 : Nat) : Int)), .bool (hasB g ((2 : Nat) : Int)), .bool (hasB g ((3 : Nat) : Int)), .bool (hasB g ((4 : Nat) : Int)), .bool (hasB g ((5 : Nat) : Int))]
def srchL (A : Option Addr) (n c : Nat) (P : Option Addr) (m pc N : Nat) (g : List Int) (bv : Value) (mv wv : Int) : List Value :=
  [.slice A n c, .slice P m pc, .slice (some ⟨N, 0, none⟩) n n] ++ takenH g ++ [bv, .int .i64 mv, .int .i64 wv]
section
variable {A : Option Addr} {n c : Nat} {P : Option Addr} {m pc N : Nat} {g : List Int} {bv : Value} {mv wv : Int}
theorem srchL_taken {p : Nat} (hp : p < 6) : (srchL A n c P m pc N g bv mv wv)[3 + p]? = some (.bool (hasB g (p : Int))) := by
  have : p = 0 ∨ p = 1 ∨ p = 2 ∨ p = 3 ∨ p = 4 ∨ p = 5 := by omega
  rcases this with rfl | rfl | rfl | rfl | rfl | rfl <;> rfl
theorem srchL_none : srchL A n c P m pc N (g ++ [-1]) bv mv wv = srchL A n c P m pc N g bv mv wv := by
  simp [srchL, takenH, hasB_snoc]
theorem srchL_add {p : Nat} (hp : p < 6) : (srchL A n c P m pc N g bv mv wv).set (3 + p) (.bool true) = srchL A n c P m pc N (g ++ [(p : Int)]) bv mv wv := by
  have : p = 0 ∨ p = 1 ∨ p = 2 ∨ p = 3 ∨ p = 4 ∨ p = 5 := by omega
  rcases this with rfl | rfl | rfl | rfl | rfl | rfl <;> simp [srchL, takenH, hasB_snoc]
theorem srchL_drop {p : Nat} (hp : p < 6) (h : hasB g (p : Int) = false) : (srchL A n c P m pc N (g ++ [(p : Int)]) bv mv wv).set (3 + p) (.bool false) = srchL A n c P m pc N g bv mv wv := by
  have : p = 0 ∨ p = 1 ∨ p = 2 ∨ p = 3 ∨ p = 4 ∨ p = 5 := by omega
  rcases this with rfl | rfl | rfl | rfl | rfl | rfl <;> simp [srchL, takenH, hasB_snoc] <;> simpa using h
theorem srchL_best {bv' : Value} {mv' wv' : Int} : (((srchL A n c P m pc N g bv mv wv).set 9 bv').set 10 (.int .i64 mv')).set 11 (.int .i64 wv') = srchL A n c P m pc N g bv' mv' wv' := rfl
end

/-- Below the heap's size all blocks but D and N are as they were. -/
structure Fr (D N : Nat) (w w' : World) : Prop where
  size : w.heap.size ≤ w'.heap.size
  block : ∀ k, k < w.heap.size → k ≠ D → k ≠ N → w'.heap[k]? = w.heap[k]?
theorem Fr.refl (D N : Nat) (w : World) : Fr D N w w := ⟨Nat.le_refl _, fun _ _ _ _ => rfl⟩
theorem Fr.trans {D N : Nat} {w w1 w2 : World} (h : Fr D N w w1) (h2 : Fr D N w1 w2) : Fr D N w w2 :=
  ⟨Nat.le_trans h.size h2.size, fun k hk h3 h4 => (h2.block k (Nat.lt_of_lt_of_le hk h.size) h3 h4).trans (h.block k hk h3 h4)⟩
theorem Fr.below {D N : Nat} {w w1 w2 : World} (h : Fr D N w w1) (hb : Below w1.heap.size w1 w2) : Fr D N w w2 := h.trans ⟨hb.size, fun k hk _ _ => hb.block k hk⟩
theorem Fr.set {D N : Nat} {w w1 : World} (h : Fr D N w w1) {p : Addr} (hp : p.block = D ∨ p.block = N) (v : Value) : Fr D N w (w1.setCell p v) :=
  h.trans ⟨by simp [World.setCell], fun k _ h1 h2 => Below.heap_setCell w1 p v k (by rcases hp with hp | hp <;> omega)⟩
theorem Whole.fr {D N g : Nat} {w w' : World} {e : TypeId} {cs : List Value} (h : Whole w g e cs) (hf : Fr D N w w') (h1 : g ≠ D) (h2 : g ≠ N) : Whole w' g e cs := (hf.block g h.lt h1 h2).trans h

/-- The best list so far, as the search holds it. -/
def BestM (base : Nat) (w : World) (D N n : Nat) (bv : Value) (mv wv : Int) (cs : List C4) (ps : List P3) (o : Option (List Int)) : Prop := match o with
  | none => bv = .slice none 0 0 ∧ mv = -1 ∧ wv = 0
  | some b => mv = manyL b ∧ wv = wasteI cs ps b ∧ ((bv = .slice none 0 0 ∧ n = 0 ∧ b = []) ∨ ∃ gB cap cur, bv = .slice (some ⟨gB, 0, none⟩) n cap ∧ base ≤ gB ∧ gB ≠ D ∧ gB ≠ N ∧ w.heap[gB]? = some (.cells cur 3 (0, 0)) ∧ n ≤ cap ∧ cap ≤ maxLen ∧ cur.size = cap ∧ cur.toList.take n = b.map (Value.int .i64) ∧ b.length = n)
theorem BestM.fr {base : Nat} {w w' : World} {D N n : Nat} {bv : Value} {mv wv : Int} {cs : List C4} {ps : List P3} {o : Option (List Int)} (h : BestM base w D N n bv mv wv cs ps o) (hf : Fr D N w w') : BestM base w' D N n bv mv wv cs ps o := by
  cases o with
  | none => exact h
  | some b =>
    rcases h with ⟨h1, h2, h0 | ⟨gB, cap, cur, h3, h4, h5, h6, h7, h8⟩⟩
    · exact ⟨h1, h2, .inl h0⟩
    exact ⟨h1, h2, .inr <| ⟨gB, cap, cur, h3, h4, h5, h6, (hf.block gB (Array.getElem?_eq_some_iff.1 h7).1 h5 h6).trans h7, h8⟩⟩
theorem BestM.own {base : Nat} {w : World} {D N n : Nat} {bv : Value} {mv wv : Int} {cs : List C4} {ps : List P3} {b : List Int} (h : BestM base w D N n bv mv wv cs ps (some b)) : OwnAt w base 3 1 bv n (ic b) := by
  rcases h with ⟨_, _, ⟨rfl, rfl, rfl⟩ | ⟨gB, cap, cur, rfl, h4, _, _, h7, h8, h9, h10, h11, h12⟩⟩
  · exact own_ints (own_nil _ _)
  exact own_ints ⟨by simp [h12], .inr ⟨gB, cap, cur, rfl, h4, h7, h8, h9, by omega, by simpa using h11⟩⟩
theorem BestM.mk {base : Nat} {w : World} {D N n : Nat} {v : Value} {cs : List C4} {ps : List P3} {b : List Int} {top : Nat} (ho : w.ownsRow top 3 1 v n (b.map (Value.int .i64))) (hb : base ≤ top) (hD : D < top) (hN : N < top) : BestM base w D N n v (manyL b) (wasteI cs ps b) cs ps (some b) := by
  have hl := ho.1
  simp at hl
  rcases ho.2 with ⟨hv, h0⟩ | ⟨g, cap, cur, h1, h2, h3, h4, h5, h6, h7⟩
  · exact ⟨rfl, rfl, .inl ⟨hv, h0, List.length_eq_zero_iff.1 (by omega)⟩⟩
  · exact ⟨rfl, rfl, .inr ⟨g, cap, cur, h1, by omega, by omega, by omega, h3, h4, h5, by omega, by simpa using h7, hl⟩⟩

/-- The search's struct lies in block D, its list of now in block N; g is the beginning, o the best so far. -/
structure Srch (base : Nat) (w : World) (D N : Nat) (A : Option Addr) (n c : Nat) (P : Option Addr) (m pc : Nat) (cs : List C4) (ps : List P3) (now g : List Int) (o : Option (List Int)) : Prop where
  blk : ∃ bv mv wv, Whole w D 67 (srchL A n c P m pc N g bv mv wv) ∧ BestM base w D N n bv mv wv cs ps o
  nowAt : Whole w N 3 (now.map (Value.int .i64))
  nlen : now.length = n
  pre : now.take g.length = g
  nd : D ≠ N
  bD : base ≤ D
  bN : base ≤ N
  ok : ∀ b, o = some b → OkPre cs ps b ∧ b.length = cs.length
theorem Srch.below {base : Nat} {w w' : World} {D N : Nat} {A : Option Addr} {n c : Nat} {P : Option Addr} {m pc : Nat} {cs : List C4} {ps : List P3} {now g : List Int} {o : Option (List Int)} (h : Srch base w D N A n c P m pc cs ps now g o) (hb : Below w.heap.size w w') : Srch base w' D N A n c P m pc cs ps now g o := by
  obtain ⟨bv, mv, wv, h1, h2⟩ := h.blk
  exact ⟨⟨bv, mv, wv, h1.below hb, h2.fr ((Fr.refl D N w).below hb)⟩, h.nowAt.below hb, h.nlen, h.pre, h.nd, h.bD, h.bN, h.ok⟩
/-- What a part of the search answers. -/
def FromR (base : Nat) (w0 w : World) (D N : Nat) (A : Option Addr) (n c : Nat) (P : Option Addr) (m pc : Nat) (cs : List C4) (ps : List P3) (g : List Int) (o : Option (List Int)) (e : Ending) (w' : World) : Prop :=
  e = .returned (.tuple #[]) ∧ ∃ now', Srch base w' D N A n c P m pc cs ps now' g o ∧ Below w0.heap.size w0 w' ∧ Fr D N w w'

theorem take_put {now g : List Int} {l : Nat} (z : Int) (h : now.take g.length = g) (hl : g.length = l) (hn : l < now.length) : (now.set l z).take (g ++ [z]).length = g ++ [z] := by
  subst hl
  apply List.ext_getElem?
  intro i
  rw [List.getElem?_take, List.length_append, List.length_singleton]
  by_cases h1 : i < g.length
  · rw [if_pos (by omega), List.getElem?_set, if_neg (by omega), List.getElem?_append_left h1]
    have h2 : (now.take g.length)[i]? = g[i]? := by rw [h]
    rw [List.getElem?_take, if_pos h1] at h2; exact h2
  · by_cases h2 : i = g.length
    · subst h2; rw [if_pos (by omega), List.getElem?_set, if_pos rfl, if_pos hn]; simp
    · rw [if_neg (by omega), List.getElem?_eq_none (by simp; omega)]
section
variable {base : Nat} {w : World} {D N : Nat} {A : Option Addr} {n c : Nat} {P : Option Addr} {m pc : Nat} {cs : List C4} {ps : List P3} {now g : List Int} {o : Option (List Int)}
theorem Srch.enter {l p : Nat} (h : Srch base w D N A n c P m pc cs ps now g o) (hl : g.length = l) (hln : l < n) (hp : p < 6) :
    Srch base ((w.setCell ⟨D, 3 + p, none⟩ (.bool true)).setCell ⟨N, l, none⟩ (.int .i64 (p : Int))) D N A n c P m pc cs ps (now.set l (p : Int)) (g ++ [(p : Int)]) o := by
  obtain ⟨bv, mv, wv, h1, h2⟩ := h.blk
  have hnd := h.nd
  have hnl := h.nlen
  refine ⟨⟨bv, mv, wv, ?_, h2.fr (((Fr.refl D N w).set (.inl rfl) _).set (.inr rfl) _)⟩, ?_, by rw [List.length_set]; exact hnl, take_put _ h.pre hl (by omega), h.nd, h.bD, h.bN, h.ok⟩
  · rw [← srchL_add hp]
    exact (h1.set_ (3 + p) _).far (p := ⟨N, l, none⟩) hnd _
  · have := (h.nowAt.far (p := ⟨D, 3 + p, none⟩) (fun h => hnd h.symm) (.bool true)).set_ l (.int .i64 (p : Int))
    rw [List.map_set]; exact this
theorem Srch.enterN {l : Nat} (h : Srch base w D N A n c P m pc cs ps now g o) (hl : g.length = l) (hln : l < n) :
    Srch base (w.setCell ⟨N, l, none⟩ (.int .i64 (-1))) D N A n c P m pc cs ps (now.set l (-1)) (g ++ [-1]) o := by
  obtain ⟨bv, mv, wv, h1, h2⟩ := h.blk
  have hnd := h.nd
  have hnl := h.nlen
  refine ⟨⟨bv, mv, wv, ?_, h2.fr ((Fr.refl D N w).set (.inr rfl) _)⟩, ?_, by rw [List.length_set]; exact hnl, take_put _ h.pre hl (by omega), h.nd, h.bD, h.bN, h.ok⟩
  · rw [srchL_none]
    exact h1.far (p := ⟨N, l, none⟩) hnd _
  · have := h.nowAt.set_ l (.int .i64 (-1))
    rw [List.map_set]; exact this
theorem Srch.shorter {z : Int} (h : now.take (g ++ [z]).length = g ++ [z]) : now.take g.length = g := by
  have h2 : (now.take (g ++ [z]).length).take g.length = (g ++ [z]).take g.length := by rw [h]
  rw [List.take_take, List.length_append, List.take_left] at h2
  rw [Nat.min_eq_left (by omega)] at h2
  exact h2
theorem Srch.leave {p : Nat} (h : Srch base w D N A n c P m pc cs ps now (g ++ [(p : Int)]) o) (hno : hasB g (p : Int) = false) (hp : p < 6) :
    Srch base (w.setCell ⟨D, 3 + p, none⟩ (.bool false)) D N A n c P m pc cs ps now g o := by
  obtain ⟨bv, mv, wv, h1, h2⟩ := h.blk
  have hnd := h.nd
  refine ⟨⟨bv, mv, wv, ?_, h2.fr ((Fr.refl D N w).set (.inl rfl) _)⟩, h.nowAt.far (p := ⟨D, 3 + p, none⟩) (fun h => hnd h.symm) _, h.nlen, Srch.shorter h.pre, h.nd, h.bD, h.bN, h.ok⟩
  have := h1.set_ (3 + p) (.bool false)
  rw [srchL_drop hp hno] at this; exact this
theorem Srch.leaveN (h : Srch base w D N A n c P m pc cs ps now (g ++ [-1]) o) : Srch base w D N A n c P m pc cs ps now g o := by
  obtain ⟨bv, mv, wv, h1, h2⟩ := h.blk
  rw [srchL_none] at h1
  exact ⟨⟨bv, mv, wv, h1, h2⟩, h.nowAt, h.nlen, Srch.shorter h.pre, h.nd, h.bD, h.bN, h.ok⟩
theorem Srch.as {o' : Option (List Int)} (h : Srch base w D N A n c P m pc cs ps now g o) (e : o = o') : Srch base w D N A n c P m pc cs ps now g o' := e ▸ h
end
end Go.Proofs.YtmmaeninlhbaaaaDoor
