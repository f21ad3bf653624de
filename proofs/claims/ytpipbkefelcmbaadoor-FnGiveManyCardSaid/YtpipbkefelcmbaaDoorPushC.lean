/-
  A car or a place more behind a list of the call's own; copies of such lists.
-/
import Derived.Test.YtpipbkefelcmbaaDoorPush
import Derived.Test.YtpipbkefelcmbaaDoorDrCar
import Derived.Test.YtpipbkefelcmbaaDoorCars
import Derived.Test.YtpipbkefelcmbaaDoorPlaces
namespace Go.Proofs.YtpipbkefelcmbaaDoor
open Go.ChangeShapes Go.WideShapes Go.ChangeAt Go.RowKit

/-- Rows that the call has made, where nobody else writes. -/
structure FarSl (w : World) (base sz : Nat) (A : Option Addr) (n c : Nat) (rs : List (List Value)) : Prop where
  sl : SlAt w sz A n rs
  far : ∀ x, A = some x → base ≤ x.block
  cap : n ≤ c ∧ c ≤ maxLen
theorem FarSl.fr1 {w w' : World} {R base sz : Nat} {A : Option Addr} {n c : Nat} {rs : List (List Value)} (h : FarSl w base sz A n c rs) (hf : Fr1 R w w') (hb : R < base) : FarSl w' base sz A n c rs := by
  refine ⟨⟨h.sl.1, fun k r hr => ?_⟩, h.far, h.cap⟩
  obtain ⟨b, off, hA, hlt, hl, hc⟩ := SlAt.row h.sl k r hr
  have hbb : base ≤ b := h.far _ hA
  refine ⟨b, off, hA, Nat.lt_of_lt_of_le hlt hf.size, hl, fun j v hv => ?_⟩
  have h1 := hc j v hv
  have h2 := hf.block b hlt (by omega)
  simp only [World.cell?] at h1 ⊢
  rw [h2]; exact h1
theorem OwnAt.farSl {w : World} {base sz n c : Nat} {e : TypeId} {A : Option Addr} {rs : List (List Value)} (ho : OwnAt w base e sz (.slice A n c) n rs) : FarSl w base sz A n c rs := by
  obtain ⟨A', c', he, h1, h2⟩ := ho.form
  injection he with e1 e2 e3
  subst e1; subst e3
  refine ⟨ho.slAt, ?_, h1, h2⟩
  intro x hx
  rcases ho.own.2 with ⟨hv, _⟩ | ⟨g, cap, cur, hv, hg, _⟩
  · injection hv with e1 _ _; subst e1; cases hx
  · injection hv with e1 _ _; rw [e1] at hx; injection hx with hx; subst hx; exact hg
theorem own_cars {w : World} {base n : Nat} {v : Value} {ns : List C4} (h : w.ownsRow base 24 4 v n (cc ns).flatten) (hl : ns.length = n) : OwnAt w base 24 4 v n (cc ns) :=
  ⟨h, by simpa [cc] using hl, by intro r hr; simp [cc] at hr; obtain ⟨x, _, rfl⟩ := hr; rfl⟩
theorem ownC0 {w1 : World} {base : Nat} (h : base ≤ w1.heap.size) : (w1.alloc (.cells #[] 24)).ownsRow base 24 4 (.slice (some ⟨w1.heap.size, 0, none⟩) 0 0) 0 [] :=
  ⟨rfl, .inr ⟨w1.heap.size, 0, #[], rfl, h, Whole.new w1 24 [], Nat.le_refl _, by unfold maxLen; omega, rfl, rfl⟩⟩
theorem car_info : (Tryd.prog.info? 24).map (fun i => (i.zero, i.size, i.bytes)) = some (some (.agg #[.int .i64 0, .int .i64 0, .int .i64 0, .int .i64 0]), 4, 32) := by kernel_rfl
/-- One car more behind a list of the call's own. -/
theorem wpList_moreC {ops : Array Oper} {rest : List Oper} {o : Oper} {a : Act} {Q : Exit → Act → World → Prop} {base : Nat} {wr : World} (hgd : o.guard = none) (s x : Operand)
    (ho : o.op = .call { callee := .builtin .append, args := #[s, x], argTypes := #[37, 37] })
    {v : Value} {n : Nat} {ns : List C4} (hbase : base ≤ wr.heap.size) (hown : wr.ownsRow base 24 4 v n (cc ns).flatten) (z : C4) (hs : a.eval s = v)
    (hx : a.eval x = .slice (some ⟨wr.heap.size, 0, none⟩) 1 1) (hn : n ≤ 1048576)
    (h : ∀ g cap w', w'.ownsRow base 24 4 (.slice (some ⟨g, 0, none⟩) (n + 1) cap) (n + 1) (cc (ns ++ [z])).flatten → Below base wr w' → wpList Tryd.prog ops Q rest (a.put o.dst (.slice (some ⟨g, 0, none⟩) (n + 1) cap)) w') :
    wpList Tryd.prog ops Q (o :: rest) a (wr.alloc (.cells #[.int .i64 z.f, .int .i64 z.t, .int .i64 z.r, .int .i64 z.u] 24)) := by
  obtain ⟨i0, hi, hz0, hz1, hz2⟩ := info_parts car_info
  refine wpList_append_lies _ hgd s x 37 ho base 24 i0 (.agg #[.int .i64 0, .int .i64 0, .int .i64 0, .int .i64 0]) 4 32 Tryd.underlying37 hi hz0 hz1 hz2 rfl (by decide) v n _ hs (hown.alloc _) ⟨wr.heap.size, 0, none⟩ 1 1 [.int .i64 z.f, .int .i64 z.t, .int .i64 z.r, .int .i64 z.u] hx rfl (new_cells wr _ [.int .i64 z.f, .int .i64 z.t, .int .i64 z.r, .int .i64 z.u]) ?_ (by omega) (by unfold maxLen; omega) (by omega) (by simp; omega) _ rfl ?_
  · intro u hu
    simp at hu
    rcases hu with rfl | rfl | rfl | rfl <;> rfl
  intro g cap w' hown' hgrow _ _
  have e : (cc (ns ++ [z])).flatten = (cc ns).flatten ++ [.int .i64 z.f, .int .i64 z.t, .int .i64 z.r, .int .i64 z.u] := by simp [cc]
  refine h g cap w' (by rw [e]; exact hown') (((Below.refl base wr).alloc hbase _).grown hgrow (by simp; omega) (fun q hq => (hown.lt q hq).1))

/-- A list of cars copied to an empty list of the call's own. -/
theorem wpList_copyC {ops : Array Oper} {rest : List Oper} {o : Oper} {a : Act} {Q : Exit → Act → World → Prop} {wx : World} (hgd : o.guard = none) (s x : Operand)
    (ho : o.op = .call { callee := .builtin .append, args := #[s, x], argTypes := #[37, 37] })
    {Gb n gc base : Nat} {ns : List C4} (hg : OwnAt wx base 24 4 (.slice (some ⟨Gb, 0, none⟩) n gc) n (cc ns)) (hs : a.eval s = .slice (some ⟨wx.heap.size, 0, none⟩) 0 0)
    (hx : a.eval x = .slice (some ⟨Gb, 0, none⟩) n gc) (hn : n ≤ 1048576)
    (h : ∀ v' w', w'.ownsRow wx.heap.size 24 4 v' n (cc ns).flatten → Below wx.heap.size wx w' → wpList Tryd.prog ops Q rest (a.put o.dst v') w') :
    wpList Tryd.prog ops Q (o :: rest) a (wx.alloc (.cells #[] 24)) := by
  obtain ⟨i0, hi, hz0, hz1, hz2⟩ := info_parts car_info
  refine wpList_append_own _ hgd s x 37 ho wx.heap.size 24 i0 (.agg #[.int .i64 0, .int .i64 0, .int .i64 0, .int .i64 0]) 4 32 Tryd.underlying37 hi hz0 hz1 hz2 rfl (by decide) (.slice (some ⟨wx.heap.size, 0, none⟩) 0 0) 0 [] hs (ownC0 (Nat.le_refl _)) ⟨Gb, 0, none⟩ n gc (cc ns).flatten hx hg.own.1 ?_ ?_ (by unfold maxLen; omega) (by omega) (by simp) ?_
  · intro j u hu
    have hc := hg.own.cells (g := Gb) rfl j u hu
    rw [World.cell?_alloc_lt _ _ _ ?_]
    · exact hc
    · exact World.block_lt_of_cell? _ _ hc
  · intro u hu
    obtain ⟨r, hr, hur⟩ := List.mem_flatten.1 hu
    obtain ⟨y, _, rfl⟩ := List.mem_map.1 hr
    simp at hur
    rcases hur with rfl | rfl | rfl | rfl <;> rfl
  · intro v' w' hown' hgrow _
    refine h v' w' (by simpa using hown') (((Below.refl _ wx).alloc (Nat.le_refl _) _).grown hgrow (by simp) (by intro k hk; simp [Value.ownBlock] at hk; omega))
theorem own_places {w : World} {base n : Nat} {v : Value} {ns : List P3} (h : w.ownsRow base 26 3 v n (pc ns).flatten) (hl : ns.length = n) : OwnAt w base 26 3 v n (pc ns) :=
  ⟨h, by simpa [pc] using hl, by intro r hr; simp [pc] at hr; obtain ⟨x, _, rfl⟩ := hr; rfl⟩
theorem ownP0 {w1 : World} {base : Nat} (h : base ≤ w1.heap.size) : (w1.alloc (.cells #[] 26)).ownsRow base 26 3 (.slice (some ⟨w1.heap.size, 0, none⟩) 0 0) 0 [] :=
  ⟨rfl, .inr ⟨w1.heap.size, 0, #[], rfl, h, Whole.new w1 26 [], Nat.le_refl _, by unfold maxLen; omega, rfl, rfl⟩⟩
theorem place_info : (Tryd.prog.info? 26).map (fun i => (i.zero, i.size, i.bytes)) = some (some (.agg #[.int .i64 0, .int .i64 0, .int .i64 0]), 3, 24) := by kernel_rfl
/-- One place more behind a list of the call's own. -/
theorem wpList_moreP {ops : Array Oper} {rest : List Oper} {o : Oper} {a : Act} {Q : Exit → Act → World → Prop} {base : Nat} {wr : World} (hgd : o.guard = none) (s x : Operand)
    (ho : o.op = .call { callee := .builtin .append, args := #[s, x], argTypes := #[34, 34] })
    {v : Value} {n : Nat} {ns : List P3} (hbase : base ≤ wr.heap.size) (hown : wr.ownsRow base 26 3 v n (pc ns).flatten) (z : P3) (hs : a.eval s = v)
    (hx : a.eval x = .slice (some ⟨wr.heap.size, 0, none⟩) 1 1) (hn : n ≤ 1048576)
    (h : ∀ g cap w', w'.ownsRow base 26 3 (.slice (some ⟨g, 0, none⟩) (n + 1) cap) (n + 1) (pc (ns ++ [z])).flatten → Below base wr w' → wpList Tryd.prog ops Q rest (a.put o.dst (.slice (some ⟨g, 0, none⟩) (n + 1) cap)) w') :
    wpList Tryd.prog ops Q (o :: rest) a (wr.alloc (.cells #[.int .i64 z.f, .int .i64 z.t, .int .i64 z.r] 26)) := by
  obtain ⟨i0, hi, hz0, hz1, hz2⟩ := info_parts place_info
  refine wpList_append_lies _ hgd s x 34 ho base 26 i0 (.agg #[.int .i64 0, .int .i64 0, .int .i64 0]) 3 24 Tryd.underlying34 hi hz0 hz1 hz2 rfl (by decide) v n _ hs (hown.alloc _) ⟨wr.heap.size, 0, none⟩ 1 1 [.int .i64 z.f, .int .i64 z.t, .int .i64 z.r] hx rfl (new_cells wr _ [.int .i64 z.f, .int .i64 z.t, .int .i64 z.r]) ?_ (by omega) (by unfold maxLen; omega) (by omega) (by simp; omega) _ rfl ?_
  · intro u hu
    simp at hu
    rcases hu with rfl | rfl | rfl <;> rfl
  intro g cap w' hown' hgrow _ _
  have e : (pc (ns ++ [z])).flatten = (pc ns).flatten ++ [.int .i64 z.f, .int .i64 z.t, .int .i64 z.r] := by simp [pc]
  refine h g cap w' (by rw [e]; exact hown') (((Below.refl base wr).alloc hbase _).grown hgrow (by simp; omega) (fun q hq => (hown.lt q hq).1))

/-- A list of places copied to an empty list of the call's own. -/
theorem wpList_copyP {ops : Array Oper} {rest : List Oper} {o : Oper} {a : Act} {Q : Exit → Act → World → Prop} {wx : World} (hgd : o.guard = none) (s x : Operand)
    (ho : o.op = .call { callee := .builtin .append, args := #[s, x], argTypes := #[34, 34] })
    {Gb n gc base : Nat} {ns : List P3} (hg : OwnAt wx base 26 3 (.slice (some ⟨Gb, 0, none⟩) n gc) n (pc ns)) (hs : a.eval s = .slice (some ⟨wx.heap.size, 0, none⟩) 0 0)
    (hx : a.eval x = .slice (some ⟨Gb, 0, none⟩) n gc) (hn : n ≤ 1048576)
    (h : ∀ v' w', w'.ownsRow wx.heap.size 26 3 v' n (pc ns).flatten → Below wx.heap.size wx w' → wpList Tryd.prog ops Q rest (a.put o.dst v') w') :
    wpList Tryd.prog ops Q (o :: rest) a (wx.alloc (.cells #[] 26)) := by
  obtain ⟨i0, hi, hz0, hz1, hz2⟩ := info_parts place_info
  refine wpList_append_own _ hgd s x 34 ho wx.heap.size 26 i0 (.agg #[.int .i64 0, .int .i64 0, .int .i64 0]) 3 24 Tryd.underlying34 hi hz0 hz1 hz2 rfl (by decide) (.slice (some ⟨wx.heap.size, 0, none⟩) 0 0) 0 [] hs (ownP0 (Nat.le_refl _)) ⟨Gb, 0, none⟩ n gc (pc ns).flatten hx hg.own.1 ?_ ?_ (by unfold maxLen; omega) (by omega) (by simp) ?_
  · intro j u hu
    have hc := hg.own.cells (g := Gb) rfl j u hu
    rw [World.cell?_alloc_lt _ _ _ ?_]
    · exact hc
    · exact World.block_lt_of_cell? _ _ hc
  · intro u hu
    obtain ⟨r, hr, hur⟩ := List.mem_flatten.1 hu
    obtain ⟨y, _, rfl⟩ := List.mem_map.1 hr
    simp at hur
    rcases hur with rfl | rfl | rfl <;> rfl
  · intro v' w' hown' hgrow _
    refine h v' w' (by simpa using hown') (((Below.refl _ wx).alloc (Nat.le_refl _) _).grown hgrow (by simp) (by intro k hk; simp [Value.ownBlock] at hk; omega))
end Go.Proofs.YtpipbkefelcmbaaDoor
