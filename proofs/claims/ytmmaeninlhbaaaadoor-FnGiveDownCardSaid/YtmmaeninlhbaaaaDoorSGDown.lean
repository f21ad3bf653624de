/-
  GiveDown of the reference.
-/
import Derived.Test.YtmmaeninlhbaaaaDoorSortS
import Derived.Test.YtmmaeninlhbaaaaDoorGDown
import Derived.Test.YtmmaeninlhbaaaaDoorDownU
import Derived.BigRegion
import Derived.Deep.CutRange
namespace Go.Proofs.YtmmaeninlhbaaaaDoor
open Go.ChangeShapes Go.WideShapes Go.ChangeAt Go.RowKit

set_option maxRecDepth 100000 in
theorem wpList_moreG {ops : Array Oper} {rest : List Oper} {o : Oper} {a : Act} {Q : Exit → Act → World → Prop} {base : Nat} {wr : World} (hgd : o.guard = none) (s x : Operand)
    (ho : o.op = .call { callee := .builtin .append, args := #[s, x], argTypes := #[27, 27] })
    {v : Value} {n : Nat} {xs : List Int} (hbase : base ≤ wr.heap.size) (hown : wr.ownsRow base 3 1 v n (xs.map (Value.int .i64))) (z : Int) (hs : a.eval s = v)
    (hx : a.eval x = .slice (some ⟨wr.heap.size, 0, none⟩) 1 1) (hn : n ≤ 1048576)
    (h : ∀ g cap w', w'.ownsRow base 3 1 (.slice (some ⟨g, 0, none⟩) (n + 1) cap) (n + 1) ((xs ++ [z]).map (Value.int .i64)) → (wr.alloc (.cells #[.int .i64 z] 3)).grownBy w' v.ownBlock → (v.ownBlock = some g ∨ g = wr.heap.size + 1) → wpList Tryd.prog ops Q rest (a.put o.dst (.slice (some ⟨g, 0, none⟩) (n + 1) cap)) w') :
    wpList Tryd.prog ops Q (o :: rest) a (wr.alloc (.cells #[.int .i64 z] 3)) := by
  obtain ⟨i0, hi, hz0, hz1, hz2⟩ := info_parts int_info
  refine wpList_append_lies _ hgd s x 27 ho base 3 i0 (.int .i64 0) 1 8 Tryd.underlying27 hi hz0 hz1 hz2 rfl (by decide) v n _ hs (hown.alloc _) ⟨wr.heap.size, 0, none⟩ 1 1 [.int .i64 z] hx rfl (new_cells wr _ [.int .i64 z]) (one_cells _) (by omega) (by unfold maxLen; omega) (by omega) (by simp; omega) (wr.heap.size + 1) (by simp) ?_
  intro g cap w' hown' hgrow hat _
  exact h g cap w' (by simpa using hown') hgrow hat
theorem own_grow {w w' : World} {base g n c : Nat} {e : TypeId} {vs : List Value} {q : Option Nat} (h : w.ownsRow base e 1 (.slice (some ⟨g, 0, none⟩) n c) n vs) (hg : w.grownBy w' q) (hq : q ≠ some g) : w'.ownsRow base e 1 (.slice (some ⟨g, 0, none⟩) n c) n vs := by
  refine ⟨h.1, ?_⟩
  rcases h.2 with ⟨hv, _⟩ | ⟨g', cap, cur, hv, hb, hcur, h1⟩
  · cases hv
  injection hv with e1 _ e2; injection e1 with e1; injection e1 with e1; subst e1; subst e2
  exact .inr ⟨g, c, cur, rfl, hb, (hg.block g (Array.getElem?_eq_some_iff.1 hcur).1 (fun e => hq e.symm)).trans hcur, h1⟩
theorem own_far {w : World} {base g n c : Nat} {e : TypeId} {vs : List Value} (h : w.ownsRow base e 1 (.slice (some ⟨g, 0, none⟩) n c) n vs) {p : Addr} (hp : g ≠ p.block) (v : Value) : (w.setCell p v).ownsRow base e 1 (.slice (some ⟨g, 0, none⟩) n c) n vs := by
  refine ⟨h.1, ?_⟩
  rcases h.2 with ⟨hv, _⟩ | ⟨g', cap, cur, hv, hg, hcur, h1⟩
  · cases hv
  injection hv with e1 _ e2; injection e1 with e1; injection e1 with e1; subst e1; subst e2
  exact .inr ⟨g, c, cur, rfl, hg, (Below.heap_setCell w p v g hp).trans hcur, h1⟩
theorem own_lt {w : World} {base g n c : Nat} {e : TypeId} {vs : List Value} (h : w.ownsRow base e 1 (.slice (some ⟨g, 0, none⟩) n c) n vs) : base ≤ g ∧ g < w.heap.size := by
  rcases h.2 with ⟨hv, _⟩ | ⟨g', cap, cur, hv, hg, hcur, _⟩
  · cases hv
  injection hv with e1 _ e2; injection e1 with e1; injection e1 with e1; subst e1
  exact ⟨hg, (Array.getElem?_eq_some_iff.1 hcur).1⟩
theorem SlAt.growG {w w' : World} {sz n : Nat} {A : Option Addr} {rs : List (List Value)} {q : Option Nat} (h : SlAt w sz A n rs) (hg : w.grownBy w' q) (hA : 0 < n → ∀ x, A = some x → q ≠ some x.block) : SlAt w' sz A n rs :=
  ⟨h.len, fun k r hr => by
    obtain ⟨b, off, hA2, hlt, hl, hc⟩ := h.row k r hr
    have hne := hA (by have := (List.getElem?_eq_some_iff.1 hr).1; have := h.len; omega) _ hA2
    refine ⟨b, off, hA2, Nat.lt_of_lt_of_le hlt hg.size, hl, fun j v hv => ?_⟩
    have h1 := hc j v hv
    have h2 := hg.block b hlt (fun e => hne e.symm)
    simp only [World.cell?] at h1 ⊢
    rw [h2]; exact h1⟩
theorem SlAt.setG {w : World} {sz n : Nat} {A : Option Addr} {rs : List (List Value)} (h : SlAt w sz A n rs) {p : Addr} (v : Value) (hA : 0 < n → ∀ x, A = some x → x.block ≠ p.block) : SlAt (w.setCell p v) sz A n rs :=
  ⟨h.len, fun k r hr => by
    obtain ⟨b, off, hA2, hlt, hl, hc⟩ := h.row k r hr
    have hne := hA (by have := (List.getElem?_eq_some_iff.1 hr).1; have := h.len; omega) _ hA2
    refine ⟨b, off, hA2, by simpa [World.setCell] using hlt, hl, fun j u hu => ?_⟩
    have h1 := hc j u hu
    have h2 := Below.heap_setCell w p v b hne
    simp only [World.cell?] at h1 ⊢
    rw [h2]; exact h1⟩
/-- What the reference holds: the list that it makes, what is used, the order; each in a block of its own. -/
structure SG (w0 w : World) (A : Option Addr) (n : Nat) (cs : List C4) (P : Option Addr) (m : Nat) (ps : List P3) (O : Option Addr) (D : List Int) (gg gc k : Nat) (G : List Int) (gu uc u : Nat) (U : List Int) : Prop where
  give : w.ownsRow w0.heap.size 3 1 (.slice (some ⟨gg, 0, none⟩) k gc) k (G.map (Value.int .i64))
  used : w.ownsRow w0.heap.size 3 1 (.slice (some ⟨gu, 0, none⟩) u uc) u (U.map (Value.int .i64))
  order : IntsAt w O n D
  apart : gg ≠ gu
  og : 0 < n → ∀ x, O = some x → x.block ≠ gg ∧ x.block ≠ gu
  below : Below w0.heap.size w0 w
theorem SG.next {w0 w w' : World} {A : Option Addr} {n : Nat} {cs : List C4} {P : Option Addr} {m : Nat} {ps : List P3} {O : Option Addr} {D : List Int} {gg gc k : Nat} {G : List Int} {gu uc u : Nat} {U : List Int} (h : SG w0 w A n cs P m ps O D gg gc k G gu uc u U) (hb : Below w.heap.size w w') :
    SG w0 w' A n cs P m ps O D gg gc k G gu uc u U := ⟨own_keep h.give hb, own_keep h.used hb, h.order.below hb, h.apart, h.og, below_next h.below hb⟩
/-- One number more in the list that is made. -/
theorem SG.addG {w0 w w' : World} {A : Option Addr} {n : Nat} {cs : List C4} {P : Option Addr} {m : Nat} {ps : List P3} {O : Option Addr} {D : List Int} {gg gc k : Nat} {G : List Int} {gu uc u : Nat} {U : List Int} {g c : Nat} {G' : List Int} {z : Value} (h : SG w0 w A n cs P m ps O D gg gc k G gu uc u U)
    (ho : w'.ownsRow w0.heap.size 3 1 (.slice (some ⟨g, 0, none⟩) (k + 1) c) (k + 1) (G'.map (Value.int .i64))) (hg : (w.alloc (.cells #[z] 3)).grownBy w' (some gg)) (hat : some gg = some g ∨ g = w.heap.size + 1) :
    SG w0 w' A n cs P m ps O D g c (k + 1) G' gu uc u U := by
  have hb : Below w.heap.size w (w.alloc (.cells #[z] 3)) := (Below.refl _ _).alloc (Nat.le_refl _) _
  have hul := (own_lt h.used).2
  have hap := h.apart
  have hol := SlAt.low h.order
  have hs := h.below.size
  refine ⟨ho, own_grow (own_keep h.used hb) hg (fun e => hap (by injection e)), SlAt.growG (h.order.below hb) hg (fun h0 x hA e => (h.og h0 x hA).1 (by injection e with e; exact e.symm)), ?_, fun h0 x hA => ?_, (h.below.alloc hs _).grown hg (by simp; omega) (fun j hj => by injection hj with hj; subst hj; exact (own_lt h.give).1)⟩
  · rcases hat with e | e
    · injection e with e; omega
    · omega
  · have h1 := h.og h0 x hA
    have h2 := hol h0 x hA
    rcases hat with e | e
    · injection e with e; omega
    · omega
/-- One number more of those used. -/
theorem SG.addU {w0 w w' : World} {A : Option Addr} {n : Nat} {cs : List C4} {P : Option Addr} {m : Nat} {ps : List P3} {O : Option Addr} {D : List Int} {gg gc k : Nat} {G : List Int} {gu uc u : Nat} {U : List Int} {g c : Nat} {U' : List Int} {z : Value} (h : SG w0 w A n cs P m ps O D gg gc k G gu uc u U)
    (ho : w'.ownsRow w0.heap.size 3 1 (.slice (some ⟨g, 0, none⟩) (u + 1) c) (u + 1) (U'.map (Value.int .i64))) (hg : (w.alloc (.cells #[z] 3)).grownBy w' (some gu)) (hat : some gu = some g ∨ g = w.heap.size + 1) :
    SG w0 w' A n cs P m ps O D gg gc k G g c (u + 1) U' := by
  have hb : Below w.heap.size w (w.alloc (.cells #[z] 3)) := (Below.refl _ _).alloc (Nat.le_refl _) _
  have hgl := (own_lt h.give).2
  have hap := h.apart
  have hol := SlAt.low h.order
  have hs := h.below.size
  refine ⟨own_grow (own_keep h.give hb) hg (fun e => hap (by injection e with e; exact e.symm)), ho, SlAt.growG (h.order.below hb) hg (fun h0 x hA e => (h.og h0 x hA).2 (by injection e with e; exact e.symm)), ?_, fun h0 x hA => ?_, (h.below.alloc hs _).grown hg (by simp; omega) (fun j hj => by injection hj with hj; subst hj; exact (own_lt h.used).1)⟩
  · rcases hat with e | e
    · injection e with e; omega
    · omega
  · have h1 := h.og h0 x hA
    have h2 := hol h0 x hA
    rcases hat with e | e
    · injection e with e; omega
    · omega
/-- A place given. -/
theorem SG.put {w0 w : World} {A : Option Addr} {n : Nat} {cs : List C4} {P : Option Addr} {m : Nat} {ps : List P3} {O : Option Addr} {D : List Int} {gg gc k : Nat} {G : List Int} {gu uc u : Nat} {U : List Int} (h : SG w0 w A n cs P m ps O D gg gc k G gu uc u U) (d : Nat) (z : Int) :
    SG w0 (w.setCell ⟨gg, d, none⟩ (.int .i64 z)) A n cs P m ps O D gg gc k (G.set d z) gu uc u U :=
  ⟨own_set h.give z, own_far h.used (fun e => h.apart e.symm) _, SlAt.setG h.order _ (fun h0 x hA => (h.og h0 x hA).1), h.apart, h.og, h.below.setCell (own_lt h.give).1 _⟩
end Go.Proofs.YtmmaeninlhbaaaaDoor
