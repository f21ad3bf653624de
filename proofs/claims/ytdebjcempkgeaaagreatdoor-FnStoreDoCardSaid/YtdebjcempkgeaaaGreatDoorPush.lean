/-
  A number more behind a list of the call's own, whatever has been written elsewhere; a list of numbers far from the reader.
-/
import Derived.Test.YtdebjcempkgeaaaGreatDoorRd
import Derived.Test.YtdebjcempkgeaaaGreatDoorDrNeed
import Derived.Test.YtdebjcempkgeaaaGreatDoorInts
import Derived.Deep.AppendLies
import Derived.Deep.RegionLaw
namespace Go.Proofs.YtdebjcempkgeaaaGreatDoor
open Go.ChangeShapes Go.WideShapes Go.ChangeAt Go.RowKit

theorem own0 {w1 : World} {base : Nat} (h : base ≤ w1.heap.size) : (w1.alloc (.cells #[] 3)).ownsRow base 3 1 (.slice (some ⟨w1.heap.size, 0, none⟩) 0 0) 0 [] :=
  ⟨rfl, .inr ⟨w1.heap.size, 0, #[], rfl, h, Whole.new w1 3 [], Nat.le_refl _, by unfold maxLen; omega, rfl, rfl⟩⟩
theorem own_keep {w w' : World} {base sz n : Nat} {e : TypeId} {v : Value} {xs : List Value} (h : w.ownsRow base e sz v n xs) (hb : Below w.heap.size w w') : w'.ownsRow base e sz v n xs :=
  h.kept (row := none) ⟨hb.os, hb.tape, hb.output, hb.size, fun k hk _ => hb.block k hk⟩ (by cases v.ownBlock <;> simp)
theorem wpList_more {ops : Array Oper} {rest : List Oper} {o : Oper} {a : Act} {Q : Exit → Act → World → Prop} {base : Nat} {wr : World} (hgd : o.guard = none) (s x : Operand)
    (ho : o.op = .call { callee := .builtin .append, args := #[s, x], argTypes := #[23, 23] })
    {v : Value} {n : Nat} {xs : List Int} (hbase : base ≤ wr.heap.size) (hown : wr.ownsRow base 3 1 v n (xs.map (Value.int .i64))) (z : Int) (hs : a.eval s = v)
    (hx : a.eval x = .slice (some ⟨wr.heap.size, 0, none⟩) 1 1) (hn : n ≤ 1048576)
    (h : ∀ g cap w', w'.ownsRow base 3 1 (.slice (some ⟨g, 0, none⟩) (n + 1) cap) (n + 1) ((xs ++ [z]).map (Value.int .i64)) → Below base wr w' → wpList Tryz.prog ops Q rest (a.put o.dst (.slice (some ⟨g, 0, none⟩) (n + 1) cap)) w') :
    wpList Tryz.prog ops Q (o :: rest) a (wr.alloc (.cells #[.int .i64 z] 3)) := by
  obtain ⟨i0, hi, hz0, hz1, hz2⟩ := info_parts int_info
  refine wpList_append_lies _ hgd s x 23 ho base 3 i0 (.int .i64 0) 1 8 Tryz.underlying23 hi hz0 hz1 hz2 rfl (by decide) v n _ hs (hown.alloc _) ⟨wr.heap.size, 0, none⟩ 1 1 [.int .i64 z] hx rfl (new_cells wr _ [.int .i64 z]) (one_cells _) (by omega) (by unfold maxLen; omega) (by omega) (by simp; omega) _ rfl ?_
  intro g cap w' hown' hgrow _ _
  refine h g cap w' (by simpa using hown') (((Below.refl base wr).alloc hbase _).grown hgrow (by simp; omega) (fun q hq => (hown.lt q hq).1))

theorem Fr1.belowB {R B : Nat} {w w1 w2 : World} (h : Fr1 R w w1) (hb : Below B w1 w2) (hB : w.heap.size ≤ B) : Fr1 R w w2 :=
  ⟨Nat.le_trans h.size hb.size, fun k hk h1 => (hb.block k (by omega)).trans (h.block k hk h1)⟩
theorem Rd.belowB {w0 w w' : World} {R B : Nat} {A : Option Addr} {n c : Nat} {bs : List Int} {K : Nat} (h : Rd w0 w R A n c bs K) (hb : Below B w w') (hR : R < B) : Rd w0 w' R A n c bs K := by
  obtain ⟨p, h1, h2⟩ := h.blk
  exact ⟨⟨p, h1, h2.belowN hb hR⟩, h.bytes, h.small, h.bR, h.bw.trans (hb.mono (by have := h.bR; omega))⟩

/-- A list of numbers that the call has made, where nobody else writes. -/
structure FarInts (w : World) (base : Nat) (A : Option Addr) (n c : Nat) (xs : List Int) : Prop where
  ints : IntsAt w A n xs
  far : ∀ x, A = some x → base ≤ x.block
  cap : n ≤ c ∧ c ≤ maxLen
theorem FarInts.fr1 {w w' : World} {R base : Nat} {A : Option Addr} {n c : Nat} {xs : List Int} (h : FarInts w base A n c xs) (hf : Fr1 R w w') (hb : R < base) : FarInts w' base A n c xs := by
  refine ⟨⟨h.ints.1, fun k r hr => ?_⟩, h.far, h.cap⟩
  obtain ⟨b, off, hA, hlt, hl, hc⟩ := SlAt.row h.ints k r hr
  have hbb : base ≤ b := h.far _ hA
  refine ⟨b, off, hA, Nat.lt_of_lt_of_le hlt hf.size, hl, fun j v hv => ?_⟩
  have h1 := hc j v hv
  have h2 := hf.block b hlt (by omega)
  simp only [World.cell?] at h1 ⊢
  rw [h2]; exact h1
theorem FarInts.below {w w' : World} {base : Nat} {A : Option Addr} {n c : Nat} {xs : List Int} (h : FarInts w base A n c xs) (hb : Below w.heap.size w w') : FarInts w' base A n c xs := ⟨h.ints.below hb, h.far, h.cap⟩
theorem OwnAt.farInts {w : World} {base n c : Nat} {A : Option Addr} {xs : List Int} (h : w.ownsRow base 3 1 (.slice A n c) n (xs.map (Value.int .i64))) : FarInts w base A n c xs := by
  have ho := own_ints h
  obtain ⟨A', c', he, h1, h2⟩ := ho.form
  injection he with e1 e2 e3
  subst e1; subst e3
  refine ⟨?_, ?_, h1, h2⟩
  · have := ho.slAt; exact this
  · intro x hx
    rcases h.2 with ⟨hv, _⟩ | ⟨g, cap, cur, hv, hg, _⟩
    · injection hv with e1 _ _; subst e1; cases hx
    · injection hv with e1 _ _; rw [e1] at hx; injection hx with hx; subst hx; exact hg
theorem IntsAt.dropN {w : World} {g o n k : Nat} {xs : List Int} (h : IntsAt w (some ⟨g, o, none⟩) n xs) : IntsAt w (some ⟨g, o + k, none⟩) (n - k) (xs.drop k) := by
  have hl := h.len
  refine ⟨by rw [List.length_map, List.length_drop, hl], fun j r hr => ?_⟩
  rw [List.map_drop, List.getElem?_drop] at hr
  obtain ⟨b, off, hA, hlt, hl, hc⟩ := SlAt.row h (k + j) r hr
  injection hA with hA; injection hA with e1 e2; subst e1; subst e2
  refine ⟨g, o + k, rfl, hlt, hl, fun i v hv => ?_⟩
  have h1 := hc i v hv
  have e : o + (k + j) * 1 + i = o + k + j * 1 + i := by omega
  rw [e] at h1; exact h1
theorem FarInts.dropN {w : World} {base g o n c k : Nat} {xs : List Int} (h : FarInts w base (some ⟨g, o, none⟩) n c xs) (hk : k ≤ n) : FarInts w base (some ⟨g, o + k, none⟩) (n - k) (c - k) (xs.drop k) :=
  ⟨h.ints.dropN, fun x hx => by injection hx with hx; subst hx; exact h.far ⟨g, o, none⟩ rfl, by have := h.cap; omega⟩
/-- Behind a store into a list of the call's own. -/
theorem own_set {w : World} {base g n c i : Nat} {xs : List Int} {e : TypeId} (h : w.ownsRow base e 1 (.slice (some ⟨g, 0, none⟩) n c) n (xs.map (Value.int .i64))) (z : Int) :
    (w.setCell ⟨g, i, none⟩ (.int .i64 z)).ownsRow base e 1 (.slice (some ⟨g, 0, none⟩) n c) n ((xs.set i z).map (Value.int .i64)) := by
  refine ⟨by have := h.1; simpa using this, ?_⟩
  rcases h.2 with ⟨hv, _⟩ | ⟨g', cap, cur, hv, hg, hcur, h1, h2, h3, h4⟩
  · cases hv
  injection hv with e1 _ e2; injection e1 with e1; injection e1 with e1; subst e1; subst e2
  have hW : Whole w g e cur.toList := by unfold Whole; simpa using hcur
  have hW2 := hW.set_ i (.int .i64 z)
  refine .inr ⟨g, c, (cur.toList.set i (.int .i64 z)).toArray, rfl, hg, hW2, h1, h2, by simpa using h3, ?_⟩
  show (cur.toList.set i (.int .i64 z)).take (n * 1) = _
  rw [List.take_set, h4, List.map_set]
theorem own_cell {w : World} {base g n c i : Nat} {xs : List Int} {e : TypeId} (h : w.ownsRow base e 1 (.slice (some ⟨g, 0, none⟩) n c) n (xs.map (Value.int .i64))) (hi : i < n) :
    (∃ u, w.cell? ⟨g, i, none⟩ = some u) ∧ w.frozen? ⟨g, i, none⟩ = false ∧ base ≤ g ∧ g < w.heap.size := by
  rcases h.2 with ⟨hv, _⟩ | ⟨g', cap, cur, hv, hg, hcur, h1, h2, h3, h4⟩
  · cases hv
  injection hv with e1 _ e2; injection e1 with e1; injection e1 with e1; subst e1; subst e2
  have hW : Whole w g e cur.toList := by unfold Whole; simpa using hcur
  refine ⟨?_, hW.free i, hg, hW.lt⟩
  rw [hW.cell i, List.getElem?_eq_getElem (by simp; omega)]
  exact ⟨_, rfl⟩
theorem own_block {w : World} {base n : Nat} {A : Option Addr} {c : Nat} {e : TypeId} {vs : List Value} (h : w.ownsRow base e 1 (.slice A n c) n vs) (hn : 0 < n) : ∃ g, A = some ⟨g, 0, none⟩ := by
  rcases h.2 with ⟨hv, h0⟩ | ⟨g', cap, cur, hv, _⟩
  · omega
  · injection hv with e1 _ _; exact ⟨g', e1⟩
set_option maxRecDepth 100000 in
/-- A list of numbers, wherever it lies, copied to an empty list of the call's own. -/
theorem wpList_copyF {ops : Array Oper} {rest : List Oper} {o : Oper} {a : Act} {Q : Exit → Act → World → Prop} {wx : World} (hgd : o.guard = none) (s x : Operand)
    (ho : o.op = .call { callee := .builtin .append, args := #[s, x], argTypes := #[23, 23] })
    {g off n gc : Nat} {xs : List Int} (hg : IntsAt wx (some ⟨g, off, none⟩) n xs) (hs : a.eval s = .slice (some ⟨wx.heap.size, 0, none⟩) 0 0)
    (hx : a.eval x = .slice (some ⟨g, off, none⟩) n gc) (hn : n ≤ 1048576)
    (h : ∀ v' w', w'.ownsRow wx.heap.size 3 1 v' n (xs.map (Value.int .i64)) → Below wx.heap.size wx w' → wpList Tryz.prog ops Q rest (a.put o.dst v') w') :
    wpList Tryz.prog ops Q (o :: rest) a (wx.alloc (.cells #[] 3)) := by
  obtain ⟨i0, hi, hz0, hz1, hz2⟩ := info_parts int_info
  refine wpList_append_own _ hgd s x 23 ho wx.heap.size 3 i0 (.int .i64 0) 1 8 Tryz.underlying23 hi hz0 hz1 hz2 rfl (by decide) (.slice (some ⟨wx.heap.size, 0, none⟩) 0 0) 0 [] hs (own0 (Nat.le_refl _)) ⟨g, off, none⟩ n gc (xs.map (Value.int .i64)) hx (by have := hg.len; simp; omega) ?_ ?_ (by unfold maxLen; omega) (by omega) (by simp) ?_
  · intro j u hu
    rw [List.getElem?_map] at hu
    obtain ⟨z, hz, rfl⟩ := Option.map_eq_some_iff.1 hu
    obtain ⟨b, of2, hA, hlt, _, hc⟩ := SlAt.row hg j [.int .i64 z] (by rw [List.getElem?_map, hz]; rfl)
    injection hA with hA; injection hA with e1 e2; subst e1; subst e2
    have h1 := hc 0 _ rfl
    have e : (⟨g, off, none⟩ : Addr).add j = ⟨g, off + j, none⟩ := by unfold Addr.add; split <;> simp_all
    rw [e, World.cell?_alloc_lt _ _ _ hlt]
    simpa using h1
  · intro u hu
    obtain ⟨z, _, rfl⟩ := List.mem_map.1 hu
    rfl
  · intro v' w' hown' hgrow _
    refine h v' w' (by simpa using hown') (((Below.refl _ wx).alloc (Nat.le_refl _) _).grown hgrow (by simp) (by intro k hk; simp [Value.ownBlock] at hk; omega))
/-- A guarded operation whose guard holds is walked as one without. -/
theorem wpList_on {ops : Array Oper} {rest : List Oper} {o : Oper} {a : Act} {w : World} {Q : Exit → Act → World → Prop} (hw : Region.wanted o (yielded ops a.tmps) = true)
    (h : wpList Tryz.prog ops Q ({ o with guard := none } :: rest) a w) : wpList Tryz.prog ops Q (o :: rest) a w := by
  unfold wpList at h ⊢
  rw [if_pos hw]
  have h2 : Region.wanted { o with guard := none } (yielded ops a.tmps) = true := rfl
  rw [if_pos h2] at h
  exact h
end Go.Proofs.YtdebjcempkgeaaaGreatDoor
