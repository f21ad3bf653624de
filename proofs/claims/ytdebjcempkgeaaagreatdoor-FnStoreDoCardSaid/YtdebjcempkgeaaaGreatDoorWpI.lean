/-
  append at one operation of a region whose order is drawn, lists of numbers: a list copied behind an empty one, one number behind a list.
-/
import Derived.Test.YtdebjcempkgeaaaGreatDoorPush
namespace Go.Proofs.YtdebjcempkgeaaaGreatDoor
open Go.ChangeShapes Go.WideShapes Go.ChangeAt Go.RowKit

set_option maxRecDepth 100000 in
theorem wp_copyI {o : Oper} {a : Act} {K : Act → World → Prop} {Q : Exit → Act → World → Prop} {w : World} (s x : Operand)
    (ho : o.op = .call { callee := .builtin .append, args := #[s, x], argTypes := #[23, 23] })
    {B E g off n gc : Nat} {xs : List Int} (h0 : w.ownsRow B 3 1 (.slice (some ⟨E, 0, none⟩) 0 0) 0 []) (hB : B ≤ w.heap.size) (hg : IntsAt w (some ⟨g, off, none⟩) n xs)
    (hs : a.eval s = .slice (some ⟨E, 0, none⟩) 0 0) (hx : a.eval x = .slice (some ⟨g, off, none⟩) n gc) (hn : n ≤ 1048576)
    (h : ∀ v' w', w'.ownsRow B 3 1 v' n (xs.map (Value.int .i64)) → w.grownBy w' (some E) → K (a.put o.dst v') w') : o.wp Tryz.prog a w K Q := by
  obtain ⟨i0, hi, hz0, hz1, hz2⟩ := info_parts int_info
  refine wp_append_own w s x 23 ho B 3 i0 (.int .i64 0) 1 8 Tryz.underlying23 hi hz0 hz1 hz2 rfl (by decide) (.slice (some ⟨E, 0, none⟩) 0 0) 0 [] hs h0 ⟨g, off, none⟩ n gc (xs.map (Value.int .i64)) hx (by have := hg.len; simp; omega) ?_ ?_ (by unfold maxLen; omega) (by omega) hB ?_
  · intro j u hu
    rw [List.getElem?_map] at hu
    obtain ⟨z, hz, rfl⟩ := Option.map_eq_some_iff.1 hu
    obtain ⟨b, of2, hA, hlt, _, hc⟩ := SlAt.row hg j [.int .i64 z] (by rw [List.getElem?_map, hz]; rfl)
    injection hA with hA; injection hA with e1 e2; subst e1; subst e2
    have h1 := hc 0 _ rfl
    have e : (⟨g, off, none⟩ : Addr).add j = ⟨g, off + j, none⟩ := by unfold Addr.add; split <;> simp_all
    rw [e]
    simpa using h1
  · intro u hu
    obtain ⟨z, _, rfl⟩ := List.mem_map.1 hu
    rfl
  · intro v' w' hown' hgrow _
    exact h v' w' (by simpa using hown') hgrow
set_option maxRecDepth 100000 in
theorem wp_pushI {o : Oper} {a : Act} {K : Act → World → Prop} {Q : Exit → Act → World → Prop} {w : World} (s x : Operand)
    (ho : o.op = .call { callee := .builtin .append, args := #[s, x], argTypes := #[23, 23] })
    {B N n : Nat} {v : Value} {xs : List Int} {z : Int} (hown : w.ownsRow B 3 1 v n (xs.map (Value.int .i64))) (hB : B ≤ w.heap.size) (hN : Whole w N 3 [.int .i64 z])
    (hs : a.eval s = v) (hx : a.eval x = .slice (some ⟨N, 0, none⟩) 1 1) (hn : n ≤ 1048576)
    (h : ∀ g cap w', w'.ownsRow B 3 1 (.slice (some ⟨g, 0, none⟩) (n + 1) cap) (n + 1) ((xs ++ [z]).map (Value.int .i64)) → w.grownBy w' v.ownBlock → K (a.put o.dst (.slice (some ⟨g, 0, none⟩) (n + 1) cap)) w') : o.wp Tryz.prog a w K Q := by
  obtain ⟨i0, hi, hz0, hz1, hz2⟩ := info_parts int_info
  refine wp_append_lies w s x 23 ho B 3 i0 (.int .i64 0) 1 8 Tryz.underlying23 hi hz0 hz1 hz2 rfl (by decide) v n _ hs hown ⟨N, 0, none⟩ 1 1 [.int .i64 z] hx rfl (World.news_of_block hN) ?_ (by omega) (by unfold maxLen; omega) (by omega) hB _ rfl ?_
  · intro u hu
    simp at hu
    subst hu; rfl
  intro g cap w' hown' hgrow _ _
  exact h g cap w' (by rw [List.map_append]; exact hown') hgrow
theorem Whole.grow {w w' : World} {N : Nat} {e : TypeId} {cs : List Value} {q : Option Nat} (h : Whole w N e cs) (hg : w.grownBy w' q) (hq : q ≠ some N) : Whole w' N e cs := by
  exact (hg.block N h.lt (fun e => hq e.symm)).trans h
theorem ownV_farI {w : World} {base g n c sz : Nat} {e : TypeId} {vs : List Value} (h : w.ownsRow base e sz (.slice (some ⟨g, 0, none⟩) n c) n vs) : base ≤ g ∧ g < w.heap.size := h.lt g rfl
theorem ints_own {w : World} {B g n c : Nat} {xs : List Int} (h : w.ownsRow B 3 1 (.slice (some ⟨g, 0, none⟩) n c) n (xs.map (Value.int .i64))) : IntsAt w (some ⟨g, 0, none⟩) n xs ∧ n ≤ c ∧ c ≤ maxLen := ⟨(OwnAt.farInts h).ints, (OwnAt.farInts h).cap⟩
theorem IntsAt.takeM {w : World} {n k : Nat} {A : Option Addr} {xs : List Int} (h : IntsAt w A n xs) (hk : k ≤ n) : IntsAt w A k (xs.take k) := by
  have hl := h.len
  refine ⟨by rw [List.length_map, List.length_take]; omega, fun j r hr => ?_⟩
  rw [List.map_take, List.getElem?_take] at hr
  split at hr
  · exact SlAt.row h j r hr
  · cases hr
/-- xs[k:] (where k is the capacity, the address stays). -/
theorem IntsAt.cutM {w : World} {g off m d k : Nat} {xs : List Int} (h : IntsAt w (some ⟨g, off, none⟩) m xs) (hk : k ≤ m) (hd : m ≤ d) :
    IntsAt w (if d = k then some ⟨g, off, none⟩ else some ⟨g, off + k, none⟩) (m - k) (xs.drop k) := by
  by_cases hdk : d = k
  · rw [if_pos hdk]
    have h0 : m - k = 0 := by omega
    have h1 : xs.drop k = [] := List.drop_eq_nil_of_le (by have := h.len; omega)
    rw [h0, h1]
    exact SlAt.nil _ _ _
  · rw [if_neg hdk]
    exact h.dropN
theorem IntsAt.cutM0 {w : World} {g m d k : Nat} {xs : List Int} (h : IntsAt w (some ⟨g, 0, none⟩) m xs) (hk : k ≤ m) (hd : m ≤ d) :
    IntsAt w (if d = k then some ⟨g, 0, none⟩ else some ⟨g, k, none⟩) (m - k) (xs.drop k) := by
  have h1 := h.cutM hk hd
  rw [Nat.zero_add] at h1; exact h1
end Go.Proofs.YtdebjcempkgeaaaGreatDoor
