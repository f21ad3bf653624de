/-
  The reference's draw of needs: a list of structs that the call has made.
-/
import Derived.Test.YtobkljhbmeglpaaDoorPush
import Derived.Test.YtobkljhbmeglpaaDoorNeeds
namespace Go.Proofs.YtobkljhbmeglpaaDoor
open Go.ChangeShapes Go.WideShapes Go.ChangeAt Go.RowKit

/-- Rows that the call has made, where nobody else writes. -/
structure FarSl (w : World) (base sz : Nat) (A : Option Addr) (n c : Nat) (rs : List (List Value)) : Prop where
  sl : SlAt w sz A n rs
  far : ∀ x, A = some x → base ≤ x.block
  cap : n ≤ c ∧ c ≤ maxLen
theorem FarSl.fr1 {w w' : World} {R base sz : Nat} {A : Option Addr} {n c : Nat} {rs : List (List Value)} (h : FarSl w base sz A n c rs) (hf : Fr1 R w w') (hb : R < base) : FarSl w' base sz A n c rs := by
  refine ⟨⟨h.sl.1, fun k r hr => ?_⟩, h.far, h.cap⟩
  obtain ⟨b, off, hA, hlt, hl, hc⟩ := SlAt.row h.sl k r hr
  have hbb : base ≤ b := h.far _ hA
  refine ⟨b, off, hA, Nat.lt_of_lt_of_le hlt hf.size, hl, fun j v hv => ?_⟩
  have h1 := hc j v hv
  have h2 := hf.block b hlt (by omega)
  simp only [World.cell?] at h1 ⊢
  rw [h2]; exact h1
theorem OwnAt.farSl {w : World} {base sz n c : Nat} {e : TypeId} {A : Option Addr} {rs : List (List Value)} (ho : OwnAt w base e sz (.slice A n c) n rs) : FarSl w base sz A n c rs := by
  obtain ⟨A', c', he, h1, h2⟩ := ho.form
  injection he with e1 e2 e3
  subst e1; subst e3
  refine ⟨ho.slAt, ?_, h1, h2⟩
  intro x hx
  rcases ho.own.2 with ⟨hv, _⟩ | ⟨g, cap, cur, hv, hg, _⟩
  · injection hv with e1 _ _; subst e1; cases hx
  · injection hv with e1 _ _; rw [e1] at hx; injection hx with hx; subst hx; exact hg
theorem own_needs {w : World} {base n : Nat} {v : Value} {ns : List N4} (h : w.ownsRow base 24 4 v n (nc ns).flatten) (hl : ns.length = n) : OwnAt w base 24 4 v n (nc ns) :=
  ⟨h, by simpa [nc] using hl, by intro r hr; simp [nc] at hr; obtain ⟨x, _, rfl⟩ := hr; rfl⟩
theorem ownN0 {w1 : World} {base : Nat} (h : base ≤ w1.heap.size) : (w1.alloc (.cells #[] 24)).ownsRow base 24 4 (.slice (some ⟨w1.heap.size, 0, none⟩) 0 0) 0 [] :=
  ⟨rfl, .inr ⟨w1.heap.size, 0, #[], rfl, h, Whole.new w1 24 [], Nat.le_refl _, by unfold maxLen; omega, rfl, rfl⟩⟩
theorem need_info : (Tryd.prog.info? 24).map (fun i => (i.zero, i.size, i.bytes)) = some (some (.agg #[.int .i64 0, .int .i64 0, .int .i64 0, .int .i64 0]), 4, 32) := by kernel_rfl
/-- One need more behind a list of the call's own. -/
theorem wpList_moreN {ops : Array Oper} {rest : List Oper} {o : Oper} {a : Act} {Q : Exit → Act → World → Prop} {base : Nat} {wr : World} (hgd : o.guard = none) (s x : Operand)
    (ho : o.op = .call { callee := .builtin .append, args := #[s, x], argTypes := #[35, 35] })
    {v : Value} {n : Nat} {ns : List N4} (hbase : base ≤ wr.heap.size) (hown : wr.ownsRow base 24 4 v n (nc ns).flatten) (z : N4) (hs : a.eval s = v)
    (hx : a.eval x = .slice (some ⟨wr.heap.size, 0, none⟩) 1 1) (hn : n ≤ 1048576)
    (h : ∀ g cap w', w'.ownsRow base 24 4 (.slice (some ⟨g, 0, none⟩) (n + 1) cap) (n + 1) (nc (ns ++ [z])).flatten → Below base wr w' → wpList Tryd.prog ops Q rest (a.put o.dst (.slice (some ⟨g, 0, none⟩) (n + 1) cap)) w') :
    wpList Tryd.prog ops Q (o :: rest) a (wr.alloc (.cells #[.int .i64 z.f, .int .i64 z.t, .int .i64 z.r, .int .i64 z.u] 24)) := by
  obtain ⟨i0, hi, hz0, hz1, hz2⟩ := info_parts need_info
  refine wpList_append_lies _ hgd s x 35 ho base 24 i0 (.agg #[.int .i64 0, .int .i64 0, .int .i64 0, .int .i64 0]) 4 32 Tryd.underlying35 hi hz0 hz1 hz2 rfl (by decide) v n _ hs (hown.alloc _) ⟨wr.heap.size, 0, none⟩ 1 1 [.int .i64 z.f, .int .i64 z.t, .int .i64 z.r, .int .i64 z.u] hx rfl (new_cells wr _ [.int .i64 z.f, .int .i64 z.t, .int .i64 z.r, .int .i64 z.u]) ?_ (by omega) (by unfold maxLen; omega) (by omega) (by simp; omega) _ rfl ?_
  · intro u hu
    simp at hu
    rcases hu with rfl | rfl | rfl | rfl <;> rfl
  intro g cap w' hown' hgrow _ _
  have e : (nc (ns ++ [z])).flatten = (nc ns).flatten ++ [.int .i64 z.f, .int .i64 z.t, .int .i64 z.r, .int .i64 z.u] := by simp [nc]
  refine h g cap w' (by rw [e]; exact hown') (((Below.refl base wr).alloc hbase _).grown hgrow (by simp; omega) (fun q hq => (hown.lt q hq).1))

def DrawN (w0 w : World) (R : Nat) (A : Option Addr) (n c : Nat) (bs : List Int) (K : Nat) (e : Ending) (w' : World) : Prop :=
  ∃ (g m d : Nat) (ns : List N4), e = .returned (.slice (some ⟨g, 0, none⟩) m d) ∧ OwnAt w' w.heap.size 24 4 (.slice (some ⟨g, 0, none⟩) m d) m (nc ns) ∧ m ≤ 7 ∧ Rd w0 w' R A n c bs K ∧ Fr1 R w w'

set_option maxRecDepth 100000 in
set_option maxHeartbeats 4000000 in
theorem l20Needs_any (w0 w : World) (R : Nat) (A : Option Addr) (n c : Nat) (bs : List Int) (J : Nat) (q : Int) (h : Rd w0 w R A n c bs J) (hJ : J ≤ 800000) (hq : 0 ≤ q) (hq2 : q ≤ 1000) :
    Calls Tryd.prog 53 #[.pointer (some ⟨R, 0, none⟩), .int .i64 q] w (DrawN w0 w R A n c bs (J + 100)) := by
  have hRl := h.lt
  have hbs : ∀ w : World, (Instr.buildSlice 35 0 #[]).run Tryd.prog w = .ok (.slice (some ⟨w.heap.size, 0, none⟩) 0 0) (w.alloc (.cells #[] 24)) := fun _ => by kernel_rfl
  have hmk : ∀ w : World, (Instr.makeSlice 35 (.int .i64 6) (.int .i64 6)).run Tryd.prog w = .ok (.slice (some ⟨w.heap.size, 0, none⟩) 6 6) (w.alloc (.cells (nc (List.replicate 6 ⟨0, 0, 0, 0⟩)).flatten.toArray 24)) := fun _ => by kernel_rfl
  go_enter Tryd.func53, Tryd.ntmps53
  go_wp2_with fail
  clear hbs
  have hR1 := h.below ((Below.refl w.heap.size w).alloc (Nat.le_refl _) (.cells #[] 24))
  have hO1 := ownN0 (w1 := w) (Nat.le_refl w.heap.size)
  have hF1 : Fr1 R w (w.alloc (.cells #[] 24)) := (Fr1.refl R w).below ((Below.refl _ _).alloc (Nat.le_refl _) _)
  generalize hw1 : w.alloc (.cells #[] 24) = w1 at hR1 hO1 hF1 ⊢
  clear hw1
  refine (pick_any w0 _ R A n c bs J 5 hR1 (by omega)).mono ?_; rintro e w2 ⟨a, rfl, ha0, ha1, -, hR2, hf2⟩
  replace ha1 := ha1 (by omega)
  have hO2 := ownsRow_fr1 hO1 hf2 hRl
  have hF2 := hF1.trans hf2
  obtain ⟨p, rfl⟩ : ∃ p : Nat, a = p := ⟨a.toNat, by omega⟩
  clear hR1 hO1 hF1 hf2 ha0
  go_wp2
  go_loopw [5, 6] (fun v i wr => ∃ (k l : Nat) (g cc : Nat) (ns : List N4), k + l = p ∧ i = .int .i64 l ∧ v = .slice (some ⟨g, 0, none⟩) k cc ∧ ns.length = k ∧ wr.ownsRow w.heap.size 24 4 (.slice (some ⟨g, 0, none⟩) k cc) k (nc ns).flatten ∧ Rd w0 wr R A n c bs (J + 1 + 10 * k) ∧ Fr1 R w wr) (fun _ i _ => (intOf i).toNat)
  case atStart => exact ⟨0, p, _, _, [], by omega, rfl, rfl, rfl, hO2, hR2, hF2⟩
  case round =>
    obtain ⟨k, l, g, cc, ns, hkl, rfl, rfl, hnl, hO3, hR3, hF3⟩ := hrel
    have HNL := Lib.hid hnl
    clear hO2 hR2 hF2 hnl
    by_cases hlt : 0 < l
    · go_wp2_with fail
      refine (l20Need_any w0 _ R A n c bs (J + 1 + 10 * k) 0 hR3 (by omega) (by omega) (by omega)).mono ?_; rintro e w4 ⟨z0, z1, z2, z3, rfl, hR4, hf4⟩
      have hO4 := ownsRow_fr1 hO3 hf4 hRl
      have hF4 := hF3.trans hf4
      clear hO3 hR3 hF3 hf4
      go_wp2_with (at_builtin; refine wpList_moreN (base := w.heap.size) rfl (.tmp 14) (.tmp 17) rfl hF4.size hO4 ⟨z0, z1, z2, z3⟩ rfl rfl (by omega) ?_; intro g5 cap5 w5 hO5 hb5)
      go_roundw
      case rel => exact ⟨k + 1, l - 1, g5, cap5, ns ++ [⟨z0, z1, z2, z3⟩], by omega, by go_num, rfl, by rw [List.length_append, HNL.out]; rfl, hO5, (hR4.belowB hb5 hRl).more (by omega), hF4.belowB hb5 (Nat.le_refl _)⟩
      case measure => simp [intOf]; omega
    · obtain rfl : l = 0 := by omega
      go_wp2_with fail
      refine (odd_any w0 _ R A n c bs (J + 1 + 10 * k) q hR3 (by omega) (by omega) (by omega)).mono ?_; rintro e w4 ⟨o, rfl, -, hR4, hf4⟩
      have hO4 := ownsRow_fr1 hO3 hf4 hRl
      have hF4 := hF3.trans hf4
      clear hO3 hR3 hF3 hf4
      cases o
      · go_wp2
        go_ret
        exact ⟨_, _, _, _, rfl, own_needs hO4 HNL.out, by omega, hR4.more (by omega), hF4⟩
      · go_wp2_with fail
        refine (pick_any w0 _ R A n c bs (J + 1 + 10 * k + 1) 2 hR4 (by omega)).mono ?_; rintro e w5 ⟨z, rfl, hz0, hz1, -, hR5, hf5⟩
        replace hz1 := hz1 (by omega)
        have hO5 := ownsRow_fr1 hO4 hf5 hRl
        have hF5 := hF4.trans hf5
        clear hO4 hR4 hF4 hf5
        have hz : z = 0 ∨ z = 1 := by omega
        rcases hz with rfl | rfl
        · go_wp2
          go_ret
          have hW : Whole (w5.alloc (.cells (nc (List.replicate 6 ⟨0, 0, 0, 0⟩)).flatten.toArray 24)) w5.heap.size 24 (nc (List.replicate 6 ⟨0, 0, 0, 0⟩)).flatten := Whole.new w5 _ _
          have ho : OwnAt (w5.alloc (.cells (nc (List.replicate 6 ⟨0, 0, 0, 0⟩)).flatten.toArray 24)) w.heap.size 24 4 (.slice (some ⟨w5.heap.size, 0, none⟩) 6 6) 6 (nc (List.replicate 6 ⟨0, 0, 0, 0⟩)) :=
            hW.own (by simp [nc]) (by intro r hr; simp [nc] at hr; subst hr; rfl) hF5.size (by unfold maxLen; omega)
          have hb : Below w5.heap.size w5 (w5.alloc (.cells (nc (List.replicate 6 ⟨0, 0, 0, 0⟩)).flatten.toArray 24)) := (Below.refl _ _).alloc (Nat.le_refl _) _
          exact ⟨_, _, _, _, rfl, ho, by omega, (hR5.below hb).more (by omega), hF5.below hb⟩
        · clear hmk
          go_wp2_with fail
          refine (l20Need_any w0 _ R A n c bs (J + 1 + 10 * k + 1 + 1) 1 hR5 (by omega) (by omega) (by omega)).mono ?_; rintro e w6 ⟨z0, z1, z2, z3, rfl, hR6, hf6⟩
          have hO6 := ownsRow_fr1 hO5 hf6 hRl
          have hF6 := hF5.trans hf6
          clear hO5 hR5 hF5 hf6
          go_wp2_with (at_builtin; refine wpList_moreN (base := w.heap.size) rfl (.tmp 26) (.tmp 29) rfl hF6.size hO6 ⟨z0, z1, z2, z3⟩ rfl rfl (by omega) ?_; intro g7 cap7 w7 hO7 hb7)
          go_ret
          exact ⟨_, _, _, _, rfl, own_needs hO7 (by rw [List.length_append, HNL.out]; rfl), by omega, (hR6.belowB hb7 hRl).more (by omega), hF6.belowB hb7 (Nat.le_refl _)⟩
/-- A list of needs copied to an empty list of the call's own. -/
theorem wpList_copyN {ops : Array Oper} {rest : List Oper} {o : Oper} {a : Act} {Q : Exit → Act → World → Prop} {wx : World} (hgd : o.guard = none) (s x : Operand)
    (ho : o.op = .call { callee := .builtin .append, args := #[s, x], argTypes := #[35, 35] })
    {Gb n gc base : Nat} {ns : List N4} (hg : OwnAt wx base 24 4 (.slice (some ⟨Gb, 0, none⟩) n gc) n (nc ns)) (hs : a.eval s = .slice (some ⟨wx.heap.size, 0, none⟩) 0 0)
    (hx : a.eval x = .slice (some ⟨Gb, 0, none⟩) n gc) (hn : n ≤ 1048576)
    (h : ∀ v' w', w'.ownsRow wx.heap.size 24 4 v' n (nc ns).flatten → Below wx.heap.size wx w' → wpList Tryd.prog ops Q rest (a.put o.dst v') w') :
    wpList Tryd.prog ops Q (o :: rest) a (wx.alloc (.cells #[] 24)) := by
  obtain ⟨i0, hi, hz0, hz1, hz2⟩ := info_parts need_info
  refine wpList_append_own _ hgd s x 35 ho wx.heap.size 24 i0 (.agg #[.int .i64 0, .int .i64 0, .int .i64 0, .int .i64 0]) 4 32 Tryd.underlying35 hi hz0 hz1 hz2 rfl (by decide) (.slice (some ⟨wx.heap.size, 0, none⟩) 0 0) 0 [] hs (ownN0 (Nat.le_refl _)) ⟨Gb, 0, none⟩ n gc (nc ns).flatten hx hg.own.1 ?_ ?_ (by unfold maxLen; omega) (by omega) (by simp) ?_
  · intro j u hu
    have hc := hg.own.cells (g := Gb) rfl j u hu
    rw [World.cell?_alloc_lt _ _ _ ?_]
    · exact hc
    · exact World.block_lt_of_cell? _ _ hc
  · intro u hu
    obtain ⟨r, hr, hur⟩ := List.mem_flatten.1 hu
    obtain ⟨y, _, rfl⟩ := List.mem_map.1 hr
    simp at hur
    rcases hur with rfl | rfl | rfl | rfl <;> rfl
  · intro v' w' hown' hgrow _
    refine h v' w' (by simpa using hown') (((Below.refl _ wx).alloc (Nat.le_refl _) _).grown hgrow (by simp) (by intro k hk; simp [Value.ownBlock] at hk; omega))
end Go.Proofs.YtobkljhbmeglpaaDoor
