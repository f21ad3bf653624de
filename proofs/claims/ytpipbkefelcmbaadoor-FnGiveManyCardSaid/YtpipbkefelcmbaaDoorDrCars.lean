/-
  The reference's draw of cars: a list of structs that the call has made.
-/
import Derived.Test.YtpipbkefelcmbaaDoorPushC
import Derived.Deep.CutRange
namespace Go.Proofs.YtpipbkefelcmbaaDoor
open Go.ChangeShapes Go.WideShapes Go.ChangeAt Go.RowKit

theorem ownV_set {w : World} {base g n c sz : Nat} {e : TypeId} {vs : List Value} (h : w.ownsRow base e sz (.slice (some ⟨g, 0, none⟩) n c) n vs) (j : Nat) (v : Value) :
    (w.setCell ⟨g, j, none⟩ v).ownsRow base e sz (.slice (some ⟨g, 0, none⟩) n c) n (vs.set j v) := by
  refine ⟨by have := h.1; simpa using this, ?_⟩
  rcases h.2 with ⟨hv, _⟩ | ⟨g', cap, cur, hv, hg, hcur, h1, h2, h3, h4⟩
  · cases hv
  injection hv with e1 _ e2; injection e1 with e1; injection e1 with e1; subst e1; subst e2
  have hW : Whole w g e cur.toList := by unfold Whole; simpa using hcur
  have hW2 := hW.set_ j v
  refine .inr ⟨g, c, (cur.toList.set j v).toArray, rfl, hg, hW2, h1, h2, by simpa using h3, ?_⟩
  show (cur.toList.set j v).take (n * sz) = _
  rw [List.take_set, h4]
theorem ownV_free {w : World} {base g n c sz : Nat} {e : TypeId} {vs : List Value} (h : w.ownsRow base e sz (.slice (some ⟨g, 0, none⟩) n c) n vs) (j : Nat) : w.frozen? ⟨g, j, none⟩ = false := by
  rcases h.2 with ⟨hv, _⟩ | ⟨g', cap, cur, hv, hg, hcur, h1, h2, h3, h4⟩
  · cases hv
  injection hv with e1 _ e2; injection e1 with e1; injection e1 with e1; subst e1; subst e2
  have hW : Whole w g e cur.toList := by unfold Whole; simpa using hcur
  exact hW.free j
theorem ownV_far {w : World} {base g n c sz : Nat} {e : TypeId} {vs : List Value} (h : w.ownsRow base e sz (.slice (some ⟨g, 0, none⟩) n c) n vs) : base ≤ g ∧ g < w.heap.size := by
  rcases h.2 with ⟨hv, _⟩ | ⟨g', cap, cur, hv, hg, hcur, _⟩
  · cases hv
  injection hv with e1 _ e2; injection e1 with e1; injection e1 with e1; subst e1
  exact ⟨hg, (Array.getElem?_eq_some_iff.1 hcur).1⟩
theorem ownV_other {w : World} {base g n c sz : Nat} {e : TypeId} {vs : List Value} (h : w.ownsRow base e sz (.slice (some ⟨g, 0, none⟩) n c) n vs) {p : Addr} (hp : g ≠ p.block) (v : Value) :
    (w.setCell p v).ownsRow base e sz (.slice (some ⟨g, 0, none⟩) n c) n vs := by
  refine ⟨h.1, ?_⟩
  rcases h.2 with ⟨hv, _⟩ | ⟨g', cap, cur, hv, hg, hcur, h1⟩
  · cases hv
  injection hv with e1 _ e2; injection e1 with e1; injection e1 with e1; subst e1; subst e2
  exact .inr ⟨g, c, cur, rfl, hg, (Below.heap_setCell w p v g hp).trans hcur, h1⟩
theorem cc_set (z : C4) : ∀ (ns : List C4) (i : Nat), (((((cc ns).flatten.set (i * 4) (.int .i64 z.f)).set (i * 4 + 1) (.int .i64 z.t)).set (i * 4 + 2) (.int .i64 z.r)).set (i * 4 + 3) (.int .i64 z.u)) = (cc (ns.set i z)).flatten
  | [], _ => rfl
  | x :: ns, 0 => by simp [cc]
  | x :: ns, i + 1 => by
    have ih := cc_set z ns i
    have e : (cc (x :: ns)).flatten = .int .i64 x.f :: .int .i64 x.t :: .int .i64 x.r :: .int .i64 x.u :: (cc ns).flatten := by simp [cc]
    have e2 : (cc ((x :: ns).set (i + 1) z)).flatten = .int .i64 x.f :: .int .i64 x.t :: .int .i64 x.r :: .int .i64 x.u :: (cc (ns.set i z)).flatten := by simp [cc]
    rw [e, e2, ← ih, show (i + 1) * 4 = i * 4 + 1 + 1 + 1 + 1 by omega, show i * 4 + 1 + 1 + 1 + 1 + 1 = (i * 4 + 1) + 1 + 1 + 1 + 1 by omega, show i * 4 + 1 + 1 + 1 + 1 + 2 = (i * 4 + 2) + 1 + 1 + 1 + 1 by omega, show i * 4 + 1 + 1 + 1 + 1 + 3 = (i * 4 + 3) + 1 + 1 + 1 + 1 by omega]
    simp only [List.set_cons_succ]
/-- Car i of a list of the call's own is written anew. -/
theorem ownC_set {w : World} {base g n c : Nat} {ns : List C4} (h : w.ownsRow base 24 4 (.slice (some ⟨g, 0, none⟩) n c) n (cc ns).flatten) (i : Nat) (z : C4) :
    ((((w.setCell ⟨g, i * 4, none⟩ (.int .i64 z.f)).setCell ⟨g, i * 4 + 1, none⟩ (.int .i64 z.t)).setCell ⟨g, i * 4 + 2, none⟩ (.int .i64 z.r)).setCell ⟨g, i * 4 + 3, none⟩ (.int .i64 z.u)).ownsRow base 24 4 (.slice (some ⟨g, 0, none⟩) n c) n (cc (ns.set i z)).flatten := by
  rw [← cc_set]
  exact ownV_set (ownV_set (ownV_set (ownV_set h _ _) _ _) _ _) _ _
/-- Two cars more behind a list of the call's own. -/
theorem wpList_moreC2 {ops : Array Oper} {rest : List Oper} {o : Oper} {a : Act} {Q : Exit → Act → World → Prop} {base : Nat} {wr : World} (hgd : o.guard = none) (s x : Operand)
    (ho : o.op = .call { callee := .builtin .append, args := #[s, x], argTypes := #[37, 37] })
    {v : Value} {n : Nat} {ns : List C4} (hbase : base ≤ wr.heap.size) (hown : wr.ownsRow base 24 4 v n (cc ns).flatten) (z y : C4) (hs : a.eval s = v)
    (hx : a.eval x = .slice (some ⟨wr.heap.size, 0, none⟩) 2 2) (hn : n ≤ 1048576)
    (h : ∀ g cap w', w'.ownsRow base 24 4 (.slice (some ⟨g, 0, none⟩) (n + 2) cap) (n + 2) (cc (ns ++ [z, y])).flatten → Below base wr w' → wpList Tryd.prog ops Q rest (a.put o.dst (.slice (some ⟨g, 0, none⟩) (n + 2) cap)) w') :
    wpList Tryd.prog ops Q (o :: rest) a (wr.alloc (.cells #[.int .i64 z.f, .int .i64 z.t, .int .i64 z.r, .int .i64 z.u, .int .i64 y.f, .int .i64 y.t, .int .i64 y.r, .int .i64 y.u] 24)) := by
  obtain ⟨i0, hi, hz0, hz1, hz2⟩ := info_parts car_info
  refine wpList_append_lies _ hgd s x 37 ho base 24 i0 (.agg #[.int .i64 0, .int .i64 0, .int .i64 0, .int .i64 0]) 4 32 Tryd.underlying37 hi hz0 hz1 hz2 rfl (by decide) v n _ hs (hown.alloc _) ⟨wr.heap.size, 0, none⟩ 2 2 [.int .i64 z.f, .int .i64 z.t, .int .i64 z.r, .int .i64 z.u, .int .i64 y.f, .int .i64 y.t, .int .i64 y.r, .int .i64 y.u] hx rfl (new_cells wr _ [.int .i64 z.f, .int .i64 z.t, .int .i64 z.r, .int .i64 z.u, .int .i64 y.f, .int .i64 y.t, .int .i64 y.r, .int .i64 y.u]) ?_ (by omega) (by unfold maxLen; omega) (by omega) (by simp; omega) _ rfl ?_
  · intro u hu
    simp at hu
    rcases hu with rfl | rfl | rfl | rfl | rfl | rfl | rfl | rfl <;> rfl
  intro g cap w' hown' hgrow _ _
  have e : (cc (ns ++ [z, y])).flatten = (cc ns).flatten ++ [.int .i64 z.f, .int .i64 z.t, .int .i64 z.r, .int .i64 z.u, .int .i64 y.f, .int .i64 y.t, .int .i64 y.r, .int .i64 y.u] := by simp [cc]
  refine h g cap w' (by rw [e]; exact hown') (((Below.refl base wr).alloc hbase _).grown hgrow (by simp; omega) (fun q hq => (hown.lt q hq).1))

def DrawCs (w0 w : World) (R : Nat) (A : Option Addr) (n c : Nat) (bs : List Int) (K : Nat) (e : Ending) (w' : World) : Prop :=
  ∃ (g m d : Nat) (ns : List C4), e = .returned (.slice (some ⟨g, 0, none⟩) m d) ∧ OwnAt w' w.heap.size 24 4 (.slice (some ⟨g, 0, none⟩) m d) m (cc ns) ∧ m ≤ 7 ∧ Rd w0 w' R A n c bs K ∧ Fr1 R w w'

set_option maxRecDepth 100000 in
set_option maxHeartbeats 4000000 in
theorem l20Cars_any (w0 w : World) (R : Nat) (A : Option Addr) (n c : Nat) (bs : List Int) (J : Nat) (q : Int) (h : Rd w0 w R A n c bs J) (hJ : J ≤ 800000) (hq : 0 ≤ q) (hq2 : q ≤ 1000) :
    Calls Tryd.prog 46 #[.pointer (some ⟨R, 0, none⟩), .int .i64 q] w (DrawCs w0 w R A n c bs (J + 100)) := by
  have hRl := h.lt
  have hbs : ∀ w : World, (Instr.buildSlice 37 0 #[]).run Tryd.prog w = .ok (.slice (some ⟨w.heap.size, 0, none⟩) 0 0) (w.alloc (.cells #[] 24)) := fun _ => by kernel_rfl
  have hmk : ∀ w : World, (Instr.makeSlice 37 (.int .i64 7) (.int .i64 7)).run Tryd.prog w = .ok (.slice (some ⟨w.heap.size, 0, none⟩) 7 7) (w.alloc (.cells (cc (List.replicate 7 ⟨0, 0, 0, 0⟩)).flatten.toArray 24)) := fun _ => by kernel_rfl
  go_enter Tryd.func46, Tryd.ntmps46
  go_wp2_with fail
  clear hbs
  have hR1 := h.below ((Below.refl w.heap.size w).alloc (Nat.le_refl _) (.cells #[] 24))
  have hO1 := ownC0 (w1 := w) (Nat.le_refl w.heap.size)
  have hF1 : Fr1 R w (w.alloc (.cells #[] 24)) := (Fr1.refl R w).below ((Below.refl _ _).alloc (Nat.le_refl _) _)
  generalize hw1 : w.alloc (.cells #[] 24) = w1 at hR1 hO1 hF1 ⊢
  clear hw1
  refine (pick_any w0 _ R A n c bs J 2 hR1 (by omega)).mono ?_; rintro e w2 ⟨a, rfl, -, -, -, hR2, hf2⟩
  have hO2 := ownsRow_fr1 hO1 hf2 hRl
  have hF2 := hF1.trans hf2
  clear hR1 hO1 hF1 hf2 h
  go_wp2_with fail
  obtain ⟨nb, hnb⟩ : ∃ nb : Bool, (a == 0) = nb := ⟨_, rfl⟩
  rw [hnb]
  clear hnb
  refine (pick_any w0 _ R A n c bs (J + 1) 6 hR2 (by omega)).mono ?_; rintro e w3 ⟨a, rfl, ha0, ha1, -, hR3, hf3⟩
  replace ha1 := ha1 (by omega)
  have hO3 := ownsRow_fr1 hO2 hf3 hRl
  have hF3 := hF2.trans hf3
  obtain ⟨p, rfl⟩ : ∃ p : Nat, a = p := ⟨a.toNat, by omega⟩
  clear hR2 hO2 hF2 hf3 ha0
  go_wp2
  go_loopw [5, 7, 8, 9] (fun v s i _c wr => ∃ (k l : Nat) (g cap : Nat) (z : Int) (ns : List C4), k + l = p ∧ i = .int .i64 l ∧ v = .slice (some ⟨g, 0, none⟩) k cap ∧ s = .int .i64 z ∧ 1 ≤ z ∧ z ≤ 9 ∧ ns.length = k ∧ wr.ownsRow w.heap.size 24 4 (.slice (some ⟨g, 0, none⟩) k cap) k (cc ns).flatten ∧ Rd w0 wr R A n c bs (J + 2 + 11 * k) ∧ Fr1 R w wr) (fun _ _ i _ _ => (intOf i).toNat)
  case atStart => exact ⟨0, p, _, _, 1, [], by omega, rfl, rfl, rfl, by omega, by omega, rfl, hO3, hR3, hF3⟩
  case round =>
    obtain ⟨k, l, g, cap, z, ns, hkl, rfl, rfl, rfl, hz1, hz9, hnl, hO4, hR4, hF4⟩ := hrel
    have HNL := Lib.hid hnl
    clear hO3 hR3 hF3 hnl
    by_cases hlt : 0 < l
    · have hxk : IntKind.i64.wrap (3 + 2 * (k : Int)) = 3 + 2 * (k : Int) := IntWalk.i64_in _ (by omega)
      go_wp2_with fail
      refine (l20CarOf_any w0 _ R A n c bs (J + 2 + 11 * k) (3 + 2 * (k : Int)) 0 hR4 (by omega) (by omega) (by omega) (by omega) (by omega)).mono ?_; rintro e w5 ⟨z0, z1, z2, z3, rfl, -, hR5, hf5⟩
      have hO5 := ownsRow_fr1 hO4 hf5 hRl
      have hF5 := hF4.trans hf5
      clear hO4 hR4 hF4 hf5
      have hC6 : Whole (w5.alloc (.cells #[.int .i64 z0, .int .i64 z1, .int .i64 z2, .int .i64 z3] 24)) w5.heap.size 24 [.int .i64 z0, .int .i64 z1, .int .i64 z2, .int .i64 z3] := Whole.new w5 _ _
      have hb6 : Below w5.heap.size w5 (w5.alloc (.cells #[.int .i64 z0, .int .i64 z1, .int .i64 z2, .int .i64 z3] 24)) := (Below.refl _ _).alloc (Nat.le_refl _) _
      have hO6 := own_keep hO5 hb6
      have hg5 := ownV_far hO5
      have hR6 := hR5.below hb6
      have hF6 := hF5.below hb6
      clear hO5 hR5 hb6
      cases nb
      · have hc0 := hC6.cell 0
        have hc1 := hC6.cell 1
        have hc2 := hC6.cell 2
        have hc3 := hC6.cell 3
        simp only [List.getElem?_cons_zero, List.getElem?_cons_succ] at hc0 hc1 hc2 hc3
        clear hC6
        have hsz : (w5.alloc (.cells #[.int .i64 z0, .int .i64 z1, .int .i64 z2, .int .i64 z3] 24)).heap.size = w5.heap.size + 1 := by simp
        go_wp2_with (at_builtin; refine wpList_moreC (base := w.heap.size) rfl (.tmp 41) (.tmp 43) rfl hF6.size hO6 ⟨z0, z1, z2, z3⟩ rfl (by rw [hsz]; rfl) (by omega) ?_; intro g7 cap7 w7 hO7 hb7)
        go_roundw
        case rel => exact ⟨k + 1, l - 1, g7, cap7, z, ns ++ [⟨z0, z1, z2, z3⟩], by omega, by go_num, rfl, rfl, hz1, hz9, by rw [List.length_append, HNL.out]; rfl, hO7, (hR6.belowB hb7 hRl).more (by omega), hF6.belowB hb7 (Nat.le_refl _)⟩
        case measure => simp [intOf]; omega
      · go_wp2_with fail
        generalize w5.alloc (.cells #[.int .i64 z0, .int .i64 z1, .int .i64 z2, .int .i64 z3] 24) = w6 at hC6 hO6 hR6 hF6 ⊢
        obtain ⟨C, HC⟩ : ∃ C, Hid (C = w5.heap.size) := ⟨_, rfl⟩
        have hCw : w.heap.size ≤ C := by have := hF5.size; have := HC.out; omega
        have hCR : R < C := by omega
        have hgC : g ≠ C := by have := HC.out; omega
        rw [← HC.out] at hC6 ⊢
        clear hF5
        refine (pick_any w0 _ R A n c bs (J + 2 + 11 * k + 10) 3 hR6 (by omega)).mono ?_; rintro e w7 ⟨y, rfl, hy0, hy1, -, hR7, hf7⟩
        replace hy1 := hy1 (by omega)
        have hO7 := ownsRow_fr1 hO6 hf7 hRl
        have hF7 := hF6.trans hf7
        have hC7 := hC6.fr1 hf7 (by omega)
        clear hO6 hR6 hF6 hf7 hC6
        have hc0 := hC7.cell 0
        have hc1 := hC7.cell 1
        have hc2 := hC7.cell 2
        have hc3 := hC7.cell 3
        simp only [List.getElem?_cons_zero, List.getElem?_cons_succ] at hc0 hc1 hc2 hc3
        have hz0 := hC7.free 0
        have hz1 := hC7.free 1
        have hz2 := hC7.free 2
        have hz3 := hC7.free 3
        have hzy : IntKind.i64.wrap (z + y) = z + y := IntWalk.i64_in _ (by omega)
        obtain ⟨m, hm, hm1, hm9⟩ : ∃ m : Int, (if 9 < z + y then 9 else z + y) = m ∧ 1 ≤ m ∧ m ≤ 9 := by
          by_cases h : 9 < z + y
          · exact ⟨9, by rw [if_pos h], by omega, by omega⟩
          · exact ⟨z + y, by rw [if_neg h], by omega, by omega⟩
        have hmm : IntKind.i64.wrap (m - 1) = m - 1 := IntWalk.i64_in _ (by omega)
        obtain ⟨t, ht⟩ : ∃ t : Int, (if m - 1 < 1 then 1 else m - 1) = t := ⟨_, rfl⟩
        have hmn : ∀ (ts : Array TypeId) (ty : TypeId) (w : World), (Builtin.min_ ts ty #[.int .i64 (z + y), .int .i64 9]).run Tryd.prog w = .ok (.int .i64 m) w := fun ts ty w => by rw [run_min_int2, hm]
        have hmx : ∀ (ts : Array TypeId) (ty : TypeId) (w : World), (Builtin.max_ ts ty #[.int .i64 (m - 1), .int .i64 1]).run Tryd.prog w = .ok (.int .i64 t) w := fun ts ty w => by rw [run_max_int2, ht]
        clear hm ht
        have hO8 := ownV_other (ownV_other (ownV_other (ownV_other hO7 (p := ⟨C, 0, none⟩) hgC (.int .i64 z0)) (p := ⟨C, 1, none⟩) hgC (.int .i64 m)) (p := ⟨C, 2, none⟩) hgC (.int .i64 t)) (p := ⟨C, 3, none⟩) hgC (.int .i64 m)
        have hR8 := (((hR7.set (p := ⟨C, 0, none⟩) hCR (.int .i64 z0)).set (p := ⟨C, 1, none⟩) hCR (.int .i64 m)).set (p := ⟨C, 2, none⟩) hCR (.int .i64 t)).set (p := ⟨C, 3, none⟩) hCR (.int .i64 m)
        have hF8 := (((hF7.far (p := ⟨C, 0, none⟩) hCw (.int .i64 z0)).far (p := ⟨C, 1, none⟩) hCw (.int .i64 m)).far (p := ⟨C, 2, none⟩) hCw (.int .i64 t)).far (p := ⟨C, 3, none⟩) hCw (.int .i64 m)
        have hC8 := (((hC7.set_ 0 (.int .i64 z0)).set_ 1 (.int .i64 m)).set_ 2 (.int .i64 t)).set_ 3 (.int .i64 m)
        have hd0 : ((((w7.setCell ⟨C, 0, none⟩ (.int .i64 z0)).setCell ⟨C, 1, none⟩ (.int .i64 m)).setCell ⟨C, 2, none⟩ (.int .i64 t)).setCell ⟨C, 3, none⟩ (.int .i64 m)).cell? ⟨C, 0, none⟩ = some (.int .i64 z0) := hC8.cell 0
        have hd1 : ((((w7.setCell ⟨C, 0, none⟩ (.int .i64 z0)).setCell ⟨C, 1, none⟩ (.int .i64 m)).setCell ⟨C, 2, none⟩ (.int .i64 t)).setCell ⟨C, 3, none⟩ (.int .i64 m)).cell? ⟨C, 1, none⟩ = some (.int .i64 m) := hC8.cell 1
        have hd2 : ((((w7.setCell ⟨C, 0, none⟩ (.int .i64 z0)).setCell ⟨C, 1, none⟩ (.int .i64 m)).setCell ⟨C, 2, none⟩ (.int .i64 t)).setCell ⟨C, 3, none⟩ (.int .i64 m)).cell? ⟨C, 2, none⟩ = some (.int .i64 t) := hC8.cell 2
        have hd3 : ((((w7.setCell ⟨C, 0, none⟩ (.int .i64 z0)).setCell ⟨C, 1, none⟩ (.int .i64 m)).setCell ⟨C, 2, none⟩ (.int .i64 t)).setCell ⟨C, 3, none⟩ (.int .i64 m)).cell? ⟨C, 3, none⟩ = some (.int .i64 m) := hC8.cell 3
        have hsz : ((((w7.setCell ⟨C, 0, none⟩ (.int .i64 z0)).setCell ⟨C, 1, none⟩ (.int .i64 m)).setCell ⟨C, 2, none⟩ (.int .i64 t)).setCell ⟨C, 3, none⟩ (.int .i64 m)).heap.size = w7.heap.size := by simp [World.setCell]
        clear hC7 hC8 hO7 hR7 hF7 hmk
        go_wp2_with (at_builtin; refine wpList_moreC (base := w.heap.size) rfl (.tmp 41) (.tmp 43) rfl hF8.size hO8 ⟨z0, m, t, m⟩ rfl (by rw [hsz]; rfl) (by omega) ?_; intro g7 cap7 w7 hO7 hb7)
        go_roundw
        case rel => exact ⟨k + 1, l - 1, g7, cap7, m, ns ++ [⟨z0, m, t, m⟩], by omega, by go_num, rfl, rfl, hm1, hm9, by rw [List.length_append, HNL.out]; rfl, hO7, (hR8.belowB hb7 hRl).more (by omega), hF8.belowB hb7 (Nat.le_refl _)⟩
        case measure => simp [intOf]; omega
    · obtain rfl : l = 0 := by omega
      have hp5 : p ≤ 5 := by omega
      obtain rfl : p = k := by omega
      clear hkl hz1 hz9 hlt ha1
      go_upto_region 12 with fail
      go_cut [52] from 45 to 51 (fun bv wc => ∃ bb : Bool, bv = .bool bb ∧ (bb = true → 1 < p) ∧ wc.ownsRow w.heap.size 24 4 (.slice (some ⟨g, 0, none⟩) p cap) p (cc ns).flatten ∧ Rd w0 wc R A n c bs (J + 60) ∧ Fr1 R w wc)
      case first =>
        clear hmk
        by_cases hk1 : 1 < p
        · have hd : decide (1 < (p : Int)) = true := by simp; omega
          go_wp2_with fail
          refine (pick_any w0 _ R A n c bs (J + 2 + 11 * p) 2 hR4 (by omega)).mono ?_; rintro e w5 ⟨y, rfl, hy0, hy1, -, hR5, hf5⟩
          have hO5 := ownsRow_fr1 hO4 hf5 hRl
          have hF5 := hF4.trans hf5
          have HK1 := Lib.hid hk1
          clear hO4 hR4 hF4 hf5 hk1 hy0 hy1
          go_wp2_with fail
          go_meet
          case rel => exact ⟨_, rfl, fun _ => HK1.out, hO5, hR5.more (by omega), hF5⟩
        · have hd : decide (1 < (p : Int)) = false := by simp; omega
          go_wp2_with fail
          go_meet
          case rel => exact ⟨false, rfl, fun h => Bool.noConfusion h, hO4, hR4.more (by omega), hF4⟩
      case rest =>
      obtain ⟨bb, rfl, hk1, hO5, hR5, hF5⟩ := hcut
      clear hO4 hR4 hF4
      go_upto_if 52 with fail
      go_cut [10] from 53 to 69 (fun _c wc => ∃ ns' : List C4, ns'.length = p ∧ wc.ownsRow w.heap.size 24 4 (.slice (some ⟨g, 0, none⟩) p cap) p (cc ns').flatten ∧ Rd w0 wc R A n c bs (J + 70) ∧ Fr1 R w wc)
      case first =>
        clear hmk
        cases bb
        · go_wp2_with fail
          go_meet
          case rel => exact ⟨_, HNL.out, hO5, hR5.more (by omega), hF5⟩
        · replace hk1 := hk1 rfl
          · generalize wc = w5 at hO5 hR5 hF5 ⊢
            have hk : p = 2 ∨ p = 3 ∨ p = 4 ∨ p = 5 := by omega
            have hg5 := ownV_far hO5
            have hgC : g ≠ w5.heap.size := by omega
            have hCR : R < w5.heap.size := hR5.lt
            clear hk1 hp5
            rcases hk with rfl | rfl | rfl | rfl
            · obtain ⟨x0, b0, off0, HX0, he0, -, p0, p1, p2, p3⟩ := CarsAt.get (own_cars hO5 HNL.out).slAt (show 0 < 2 by omega)
              obtain ⟨x1, b1, off1, HX1, he1, -, q0, q1, q2, q3⟩ := CarsAt.get (own_cars hO5 HNL.out).slAt (show 1 < 2 by omega)
              injection he0 with he0; injection he0 with e1 e2; subst e1; subst e2
              injection he1 with he1; injection he1 with e1 e2; subst e1; subst e2
              clear HX0 HX1
              replace p0 : w5.cell? ⟨g, 0, none⟩ = some (.int .i64 x0.f) := p0
              replace q0 : w5.cell? ⟨g, 4, none⟩ = some (.int .i64 x1.f) := q0
              replace p1 : w5.cell? ⟨g, 1, none⟩ = some (.int .i64 x0.t) := p1
              replace q1 : w5.cell? ⟨g, 5, none⟩ = some (.int .i64 x1.t) := q1
              replace p2 : w5.cell? ⟨g, 2, none⟩ = some (.int .i64 x0.r) := p2
              replace q2 : w5.cell? ⟨g, 6, none⟩ = some (.int .i64 x1.r) := q2
              replace p3 : w5.cell? ⟨g, 3, none⟩ = some (.int .i64 x0.u) := p3
              replace q3 : w5.cell? ⟨g, 7, none⟩ = some (.int .i64 x1.u) := q3
              have hb6 : Below w5.heap.size w5 (w5.alloc (.cells #[.int .i64 x0.f, .int .i64 x0.t, .int .i64 x0.r, .int .i64 x0.u] 24)) := (Below.refl _ _).alloc (Nat.le_refl _) _
              have hC6 : Whole (w5.alloc (.cells #[.int .i64 x0.f, .int .i64 x0.t, .int .i64 x0.r, .int .i64 x0.u] 24)) w5.heap.size 24 [.int .i64 x0.f, .int .i64 x0.t, .int .i64 x0.r, .int .i64 x0.u] := Whole.new w5 _ _
              have hO6 := own_keep hO5 hb6
              have hR6 := hR5.below hb6
              have hF6 := hF5.below hb6
              go_upto_region 14 with fail
              generalize w5.alloc (.cells #[.int .i64 x0.f, .int .i64 x0.t, .int .i64 x0.r, .int .i64 x0.u] 24) = v6 at hb6 hC6 hO6 hR6 hF6 ⊢
              obtain ⟨C, HC⟩ : ∃ C, Hid (C = w5.heap.size) := ⟨_, rfl⟩
              have hgC' : g ≠ C := by rw [HC.out]; exact hgC
              rw [← HC.out] at hC6 ⊢
              have hgw : w.heap.size ≤ g := hg5.1
              have hgR : R < g := by omega
              replace p0 : v6.cell? ⟨g, 0, none⟩ = some (.int .i64 x0.f) := (hb6.cell (p := ⟨g, 0, none⟩) hg5.2).trans p0
              replace q0 : v6.cell? ⟨g, 4, none⟩ = some (.int .i64 x1.f) := (hb6.cell (p := ⟨g, 4, none⟩) hg5.2).trans q0
              have fa0 := ownV_free hO6 0
              replace p1 : v6.cell? ⟨g, 1, none⟩ = some (.int .i64 x0.t) := (hb6.cell (p := ⟨g, 1, none⟩) hg5.2).trans p1
              replace q1 : v6.cell? ⟨g, 5, none⟩ = some (.int .i64 x1.t) := (hb6.cell (p := ⟨g, 5, none⟩) hg5.2).trans q1
              have fa1 := ownV_free hO6 1
              replace p2 : v6.cell? ⟨g, 2, none⟩ = some (.int .i64 x0.r) := (hb6.cell (p := ⟨g, 2, none⟩) hg5.2).trans p2
              replace q2 : v6.cell? ⟨g, 6, none⟩ = some (.int .i64 x1.r) := (hb6.cell (p := ⟨g, 6, none⟩) hg5.2).trans q2
              have fa2 := ownV_free hO6 2
              replace p3 : v6.cell? ⟨g, 3, none⟩ = some (.int .i64 x0.u) := (hb6.cell (p := ⟨g, 3, none⟩) hg5.2).trans p3
              replace q3 : v6.cell? ⟨g, 7, none⟩ = some (.int .i64 x1.u) := (hb6.cell (p := ⟨g, 7, none⟩) hg5.2).trans q3
              have fa3 := ownV_free hO6 3
              have hO7 : ((((v6.setCell ⟨g, 0, none⟩ (.int .i64 x1.f)).setCell ⟨g, 1, none⟩ (.int .i64 x1.t)).setCell ⟨g, 2, none⟩ (.int .i64 x1.r)).setCell ⟨g, 3, none⟩ (.int .i64 x1.u)).ownsRow w.heap.size 24 4 (.slice (some ⟨g, 0, none⟩) 2 cap) 2 (cc (ns.set 0 x1)).flatten := ownC_set hO6 0 x1
              have hR7 := ((((hR6.set (p := ⟨g, 0, none⟩) hgR (.int .i64 x1.f)).set (p := ⟨g, 1, none⟩) hgR (.int .i64 x1.t)).set (p := ⟨g, 2, none⟩) hgR (.int .i64 x1.r)).set (p := ⟨g, 3, none⟩) hgR (.int .i64 x1.u))
              have hF7 := ((((hF6.far (p := ⟨g, 0, none⟩) hgw (.int .i64 x1.f)).far (p := ⟨g, 1, none⟩) hgw (.int .i64 x1.t)).far (p := ⟨g, 2, none⟩) hgw (.int .i64 x1.r)).far (p := ⟨g, 3, none⟩) hgw (.int .i64 x1.u))
              have hC7 := ((((hC6.far (p := ⟨g, 0, none⟩) hgC'.symm (.int .i64 x1.f)).far (p := ⟨g, 1, none⟩) hgC'.symm (.int .i64 x1.t)).far (p := ⟨g, 2, none⟩) hgC'.symm (.int .i64 x1.r)).far (p := ⟨g, 3, none⟩) hgC'.symm (.int .i64 x1.u))
              clear hO5 hR5 hF5 hb6 hO6 hR6 hF6 hC6 hg5 hgC hCR
              go_upto_region 15 with fail
              clear p0 p1 p2 p3 q0 q1 q2 q3 fa0 fa1 fa2 fa3
              generalize ((((v6.setCell ⟨g, 0, none⟩ (.int .i64 x1.f)).setCell ⟨g, 1, none⟩ (.int .i64 x1.t)).setCell ⟨g, 2, none⟩ (.int .i64 x1.r)).setCell ⟨g, 3, none⟩ (.int .i64 x1.u)) = v7 at hO7 hR7 hF7 hC7 ⊢
              have c0 : v7.cell? ⟨C, 0, none⟩ = some (.int .i64 x0.f) := hC7.cell 0
              have c1 : v7.cell? ⟨C, 1, none⟩ = some (.int .i64 x0.t) := hC7.cell 1
              have c2 : v7.cell? ⟨C, 2, none⟩ = some (.int .i64 x0.r) := hC7.cell 2
              have c3 : v7.cell? ⟨C, 3, none⟩ = some (.int .i64 x0.u) := hC7.cell 3
              obtain ⟨x2, b2, off2, HX2, he2, -, p0, p1, p2, p3⟩ := CarsAt.get (own_cars hO7 (by rw [List.length_set, HNL.out])).slAt (show 1 < 2 by omega)
              injection he2 with he2; injection he2 with e1 e2; subst e1; subst e2
              clear HX2
              replace p0 : v7.cell? ⟨g, 4, none⟩ = some (.int .i64 x2.f) := p0
              have fa0 := ownV_free hO7 4
              replace p1 : v7.cell? ⟨g, 5, none⟩ = some (.int .i64 x2.t) := p1
              have fa1 := ownV_free hO7 5
              replace p2 : v7.cell? ⟨g, 6, none⟩ = some (.int .i64 x2.r) := p2
              have fa2 := ownV_free hO7 6
              replace p3 : v7.cell? ⟨g, 7, none⟩ = some (.int .i64 x2.u) := p3
              have fa3 := ownV_free hO7 7
              have hO8 : ((((v7.setCell ⟨g, 4, none⟩ (.int .i64 x0.f)).setCell ⟨g, 5, none⟩ (.int .i64 x0.t)).setCell ⟨g, 6, none⟩ (.int .i64 x0.r)).setCell ⟨g, 7, none⟩ (.int .i64 x0.u)).ownsRow w.heap.size 24 4 (.slice (some ⟨g, 0, none⟩) 2 cap) 2 (cc ((ns.set 0 x1).set 1 x0)).flatten := ownC_set hO7 1 x0
              have hR8 := ((((hR7.set (p := ⟨g, 4, none⟩) hgR (.int .i64 x0.f)).set (p := ⟨g, 5, none⟩) hgR (.int .i64 x0.t)).set (p := ⟨g, 6, none⟩) hgR (.int .i64 x0.r)).set (p := ⟨g, 7, none⟩) hgR (.int .i64 x0.u))
              have hF8 := ((((hF7.far (p := ⟨g, 4, none⟩) hgw (.int .i64 x0.f)).far (p := ⟨g, 5, none⟩) hgw (.int .i64 x0.t)).far (p := ⟨g, 6, none⟩) hgw (.int .i64 x0.r)).far (p := ⟨g, 7, none⟩) hgw (.int .i64 x0.u))
              have HO8 := Lib.hid hO8
              have HR8 := Lib.hid hR8
              have HF8 := Lib.hid hF8
              clear hO7 hR7 hF7 hC7 hO8 hR8 hF8
              go_wp2_with fail
              go_meet
              case rel => exact ⟨_, by rw [List.length_set, List.length_set, HNL.out], HO8.out, HR8.out.more (by omega), HF8.out⟩
            · obtain ⟨x0, b0, off0, HX0, he0, -, p0, p1, p2, p3⟩ := CarsAt.get (own_cars hO5 HNL.out).slAt (show 0 < 3 by omega)
              obtain ⟨x1, b1, off1, HX1, he1, -, q0, q1, q2, q3⟩ := CarsAt.get (own_cars hO5 HNL.out).slAt (show 2 < 3 by omega)
              injection he0 with he0; injection he0 with e1 e2; subst e1; subst e2
              injection he1 with he1; injection he1 with e1 e2; subst e1; subst e2
              clear HX0 HX1
              replace p0 : w5.cell? ⟨g, 0, none⟩ = some (.int .i64 x0.f) := p0
              replace q0 : w5.cell? ⟨g, 8, none⟩ = some (.int .i64 x1.f) := q0
              replace p1 : w5.cell? ⟨g, 1, none⟩ = some (.int .i64 x0.t) := p1
              replace q1 : w5.cell? ⟨g, 9, none⟩ = some (.int .i64 x1.t) := q1
              replace p2 : w5.cell? ⟨g, 2, none⟩ = some (.int .i64 x0.r) := p2
              replace q2 : w5.cell? ⟨g, 10, none⟩ = some (.int .i64 x1.r) := q2
              replace p3 : w5.cell? ⟨g, 3, none⟩ = some (.int .i64 x0.u) := p3
              replace q3 : w5.cell? ⟨g, 11, none⟩ = some (.int .i64 x1.u) := q3
              have hb6 : Below w5.heap.size w5 (w5.alloc (.cells #[.int .i64 x0.f, .int .i64 x0.t, .int .i64 x0.r, .int .i64 x0.u] 24)) := (Below.refl _ _).alloc (Nat.le_refl _) _
              have hC6 : Whole (w5.alloc (.cells #[.int .i64 x0.f, .int .i64 x0.t, .int .i64 x0.r, .int .i64 x0.u] 24)) w5.heap.size 24 [.int .i64 x0.f, .int .i64 x0.t, .int .i64 x0.r, .int .i64 x0.u] := Whole.new w5 _ _
              have hO6 := own_keep hO5 hb6
              have hR6 := hR5.below hb6
              have hF6 := hF5.below hb6
              go_upto_region 14 with fail
              generalize w5.alloc (.cells #[.int .i64 x0.f, .int .i64 x0.t, .int .i64 x0.r, .int .i64 x0.u] 24) = v6 at hb6 hC6 hO6 hR6 hF6 ⊢
              obtain ⟨C, HC⟩ : ∃ C, Hid (C = w5.heap.size) := ⟨_, rfl⟩
              have hgC' : g ≠ C := by rw [HC.out]; exact hgC
              rw [← HC.out] at hC6 ⊢
              have hgw : w.heap.size ≤ g := hg5.1
              have hgR : R < g := by omega
              replace p0 : v6.cell? ⟨g, 0, none⟩ = some (.int .i64 x0.f) := (hb6.cell (p := ⟨g, 0, none⟩) hg5.2).trans p0
              replace q0 : v6.cell? ⟨g, 8, none⟩ = some (.int .i64 x1.f) := (hb6.cell (p := ⟨g, 8, none⟩) hg5.2).trans q0
              have fa0 := ownV_free hO6 0
              replace p1 : v6.cell? ⟨g, 1, none⟩ = some (.int .i64 x0.t) := (hb6.cell (p := ⟨g, 1, none⟩) hg5.2).trans p1
              replace q1 : v6.cell? ⟨g, 9, none⟩ = some (.int .i64 x1.t) := (hb6.cell (p := ⟨g, 9, none⟩) hg5.2).trans q1
              have fa1 := ownV_free hO6 1
              replace p2 : v6.cell? ⟨g, 2, none⟩ = some (.int .i64 x0.r) := (hb6.cell (p := ⟨g, 2, none⟩) hg5.2).trans p2
              replace q2 : v6.cell? ⟨g, 10, none⟩ = some (.int .i64 x1.r) := (hb6.cell (p := ⟨g, 10, none⟩) hg5.2).trans q2
              have fa2 := ownV_free hO6 2
              replace p3 : v6.cell? ⟨g, 3, none⟩ = some (.int .i64 x0.u) := (hb6.cell (p := ⟨g, 3, none⟩) hg5.2).trans p3
              replace q3 : v6.cell? ⟨g, 11, none⟩ = some (.int .i64 x1.u) := (hb6.cell (p := ⟨g, 11, none⟩) hg5.2).trans q3
              have fa3 := ownV_free hO6 3
              have hO7 : ((((v6.setCell ⟨g, 0, none⟩ (.int .i64 x1.f)).setCell ⟨g, 1, none⟩ (.int .i64 x1.t)).setCell ⟨g, 2, none⟩ (.int .i64 x1.r)).setCell ⟨g, 3, none⟩ (.int .i64 x1.u)).ownsRow w.heap.size 24 4 (.slice (some ⟨g, 0, none⟩) 3 cap) 3 (cc (ns.set 0 x1)).flatten := ownC_set hO6 0 x1
              have hR7 := ((((hR6.set (p := ⟨g, 0, none⟩) hgR (.int .i64 x1.f)).set (p := ⟨g, 1, none⟩) hgR (.int .i64 x1.t)).set (p := ⟨g, 2, none⟩) hgR (.int .i64 x1.r)).set (p := ⟨g, 3, none⟩) hgR (.int .i64 x1.u))
              have hF7 := ((((hF6.far (p := ⟨g, 0, none⟩) hgw (.int .i64 x1.f)).far (p := ⟨g, 1, none⟩) hgw (.int .i64 x1.t)).far (p := ⟨g, 2, none⟩) hgw (.int .i64 x1.r)).far (p := ⟨g, 3, none⟩) hgw (.int .i64 x1.u))
              have hC7 := ((((hC6.far (p := ⟨g, 0, none⟩) hgC'.symm (.int .i64 x1.f)).far (p := ⟨g, 1, none⟩) hgC'.symm (.int .i64 x1.t)).far (p := ⟨g, 2, none⟩) hgC'.symm (.int .i64 x1.r)).far (p := ⟨g, 3, none⟩) hgC'.symm (.int .i64 x1.u))
              clear hO5 hR5 hF5 hb6 hO6 hR6 hF6 hC6 hg5 hgC hCR
              go_upto_region 15 with fail
              clear p0 p1 p2 p3 q0 q1 q2 q3 fa0 fa1 fa2 fa3
              generalize ((((v6.setCell ⟨g, 0, none⟩ (.int .i64 x1.f)).setCell ⟨g, 1, none⟩ (.int .i64 x1.t)).setCell ⟨g, 2, none⟩ (.int .i64 x1.r)).setCell ⟨g, 3, none⟩ (.int .i64 x1.u)) = v7 at hO7 hR7 hF7 hC7 ⊢
              have c0 : v7.cell? ⟨C, 0, none⟩ = some (.int .i64 x0.f) := hC7.cell 0
              have c1 : v7.cell? ⟨C, 1, none⟩ = some (.int .i64 x0.t) := hC7.cell 1
              have c2 : v7.cell? ⟨C, 2, none⟩ = some (.int .i64 x0.r) := hC7.cell 2
              have c3 : v7.cell? ⟨C, 3, none⟩ = some (.int .i64 x0.u) := hC7.cell 3
              obtain ⟨x2, b2, off2, HX2, he2, -, p0, p1, p2, p3⟩ := CarsAt.get (own_cars hO7 (by rw [List.length_set, HNL.out])).slAt (show 2 < 3 by omega)
              injection he2 with he2; injection he2 with e1 e2; subst e1; subst e2
              clear HX2
              replace p0 : v7.cell? ⟨g, 8, none⟩ = some (.int .i64 x2.f) := p0
              have fa0 := ownV_free hO7 8
              replace p1 : v7.cell? ⟨g, 9, none⟩ = some (.int .i64 x2.t) := p1
              have fa1 := ownV_free hO7 9
              replace p2 : v7.cell? ⟨g, 10, none⟩ = some (.int .i64 x2.r) := p2
              have fa2 := ownV_free hO7 10
              replace p3 : v7.cell? ⟨g, 11, none⟩ = some (.int .i64 x2.u) := p3
              have fa3 := ownV_free hO7 11
              have hO8 : ((((v7.setCell ⟨g, 8, none⟩ (.int .i64 x0.f)).setCell ⟨g, 9, none⟩ (.int .i64 x0.t)).setCell ⟨g, 10, none⟩ (.int .i64 x0.r)).setCell ⟨g, 11, none⟩ (.int .i64 x0.u)).ownsRow w.heap.size 24 4 (.slice (some ⟨g, 0, none⟩) 3 cap) 3 (cc ((ns.set 0 x1).set 2 x0)).flatten := ownC_set hO7 2 x0
              have hR8 := ((((hR7.set (p := ⟨g, 8, none⟩) hgR (.int .i64 x0.f)).set (p := ⟨g, 9, none⟩) hgR (.int .i64 x0.t)).set (p := ⟨g, 10, none⟩) hgR (.int .i64 x0.r)).set (p := ⟨g, 11, none⟩) hgR (.int .i64 x0.u))
              have hF8 := ((((hF7.far (p := ⟨g, 8, none⟩) hgw (.int .i64 x0.f)).far (p := ⟨g, 9, none⟩) hgw (.int .i64 x0.t)).far (p := ⟨g, 10, none⟩) hgw (.int .i64 x0.r)).far (p := ⟨g, 11, none⟩) hgw (.int .i64 x0.u))
              have HO8 := Lib.hid hO8
              have HR8 := Lib.hid hR8
              have HF8 := Lib.hid hF8
              clear hO7 hR7 hF7 hC7 hO8 hR8 hF8
              go_wp2_with fail
              go_meet
              case rel => exact ⟨_, by rw [List.length_set, List.length_set, HNL.out], HO8.out, HR8.out.more (by omega), HF8.out⟩
            · obtain ⟨x0, b0, off0, HX0, he0, -, p0, p1, p2, p3⟩ := CarsAt.get (own_cars hO5 HNL.out).slAt (show 0 < 4 by omega)
              obtain ⟨x1, b1, off1, HX1, he1, -, q0, q1, q2, q3⟩ := CarsAt.get (own_cars hO5 HNL.out).slAt (show 3 < 4 by omega)
              injection he0 with he0; injection he0 with e1 e2; subst e1; subst e2
              injection he1 with he1; injection he1 with e1 e2; subst e1; subst e2
              clear HX0 HX1
              replace p0 : w5.cell? ⟨g, 0, none⟩ = some (.int .i64 x0.f) := p0
              replace q0 : w5.cell? ⟨g, 12, none⟩ = some (.int .i64 x1.f) := q0
              replace p1 : w5.cell? ⟨g, 1, none⟩ = some (.int .i64 x0.t) := p1
              replace q1 : w5.cell? ⟨g, 13, none⟩ = some (.int .i64 x1.t) := q1
              replace p2 : w5.cell? ⟨g, 2, none⟩ = some (.int .i64 x0.r) := p2
              replace q2 : w5.cell? ⟨g, 14, none⟩ = some (.int .i64 x1.r) := q2
              replace p3 : w5.cell? ⟨g, 3, none⟩ = some (.int .i64 x0.u) := p3
              replace q3 : w5.cell? ⟨g, 15, none⟩ = some (.int .i64 x1.u) := q3
              have hb6 : Below w5.heap.size w5 (w5.alloc (.cells #[.int .i64 x0.f, .int .i64 x0.t, .int .i64 x0.r, .int .i64 x0.u] 24)) := (Below.refl _ _).alloc (Nat.le_refl _) _
              have hC6 : Whole (w5.alloc (.cells #[.int .i64 x0.f, .int .i64 x0.t, .int .i64 x0.r, .int .i64 x0.u] 24)) w5.heap.size 24 [.int .i64 x0.f, .int .i64 x0.t, .int .i64 x0.r, .int .i64 x0.u] := Whole.new w5 _ _
              have hO6 := own_keep hO5 hb6
              have hR6 := hR5.below hb6
              have hF6 := hF5.below hb6
              go_upto_region 14 with fail
              generalize w5.alloc (.cells #[.int .i64 x0.f, .int .i64 x0.t, .int .i64 x0.r, .int .i64 x0.u] 24) = v6 at hb6 hC6 hO6 hR6 hF6 ⊢
              obtain ⟨C, HC⟩ : ∃ C, Hid (C = w5.heap.size) := ⟨_, rfl⟩
              have hgC' : g ≠ C := by rw [HC.out]; exact hgC
              rw [← HC.out] at hC6 ⊢
              have hgw : w.heap.size ≤ g := hg5.1
              have hgR : R < g := by omega
              replace p0 : v6.cell? ⟨g, 0, none⟩ = some (.int .i64 x0.f) := (hb6.cell (p := ⟨g, 0, none⟩) hg5.2).trans p0
              replace q0 : v6.cell? ⟨g, 12, none⟩ = some (.int .i64 x1.f) := (hb6.cell (p := ⟨g, 12, none⟩) hg5.2).trans q0
              have fa0 := ownV_free hO6 0
              replace p1 : v6.cell? ⟨g, 1, none⟩ = some (.int .i64 x0.t) := (hb6.cell (p := ⟨g, 1, none⟩) hg5.2).trans p1
              replace q1 : v6.cell? ⟨g, 13, none⟩ = some (.int .i64 x1.t) := (hb6.cell (p := ⟨g, 13, none⟩) hg5.2).trans q1
              have fa1 := ownV_free hO6 1
              replace p2 : v6.cell? ⟨g, 2, none⟩ = some (.int .i64 x0.r) := (hb6.cell (p := ⟨g, 2, none⟩) hg5.2).trans p2
              replace q2 : v6.cell? ⟨g, 14, none⟩ = some (.int .i64 x1.r) := (hb6.cell (p := ⟨g, 14, none⟩) hg5.2).trans q2
              have fa2 := ownV_free hO6 2
              replace p3 : v6.cell? ⟨g, 3, none⟩ = some (.int .i64 x0.u) := (hb6.cell (p := ⟨g, 3, none⟩) hg5.2).trans p3
              replace q3 : v6.cell? ⟨g, 15, none⟩ = some (.int .i64 x1.u) := (hb6.cell (p := ⟨g, 15, none⟩) hg5.2).trans q3
              have fa3 := ownV_free hO6 3
              have hO7 : ((((v6.setCell ⟨g, 0, none⟩ (.int .i64 x1.f)).setCell ⟨g, 1, none⟩ (.int .i64 x1.t)).setCell ⟨g, 2, none⟩ (.int .i64 x1.r)).setCell ⟨g, 3, none⟩ (.int .i64 x1.u)).ownsRow w.heap.size 24 4 (.slice (some ⟨g, 0, none⟩) 4 cap) 4 (cc (ns.set 0 x1)).flatten := ownC_set hO6 0 x1
              have hR7 := ((((hR6.set (p := ⟨g, 0, none⟩) hgR (.int .i64 x1.f)).set (p := ⟨g, 1, none⟩) hgR (.int .i64 x1.t)).set (p := ⟨g, 2, none⟩) hgR (.int .i64 x1.r)).set (p := ⟨g, 3, none⟩) hgR (.int .i64 x1.u))
              have hF7 := ((((hF6.far (p := ⟨g, 0, none⟩) hgw (.int .i64 x1.f)).far (p := ⟨g, 1, none⟩) hgw (.int .i64 x1.t)).far (p := ⟨g, 2, none⟩) hgw (.int .i64 x1.r)).far (p := ⟨g, 3, none⟩) hgw (.int .i64 x1.u))
              have hC7 := ((((hC6.far (p := ⟨g, 0, none⟩) hgC'.symm (.int .i64 x1.f)).far (p := ⟨g, 1, none⟩) hgC'.symm (.int .i64 x1.t)).far (p := ⟨g, 2, none⟩) hgC'.symm (.int .i64 x1.r)).far (p := ⟨g, 3, none⟩) hgC'.symm (.int .i64 x1.u))
              clear hO5 hR5 hF5 hb6 hO6 hR6 hF6 hC6 hg5 hgC hCR
              go_upto_region 15 with fail
              clear p0 p1 p2 p3 q0 q1 q2 q3 fa0 fa1 fa2 fa3
              generalize ((((v6.setCell ⟨g, 0, none⟩ (.int .i64 x1.f)).setCell ⟨g, 1, none⟩ (.int .i64 x1.t)).setCell ⟨g, 2, none⟩ (.int .i64 x1.r)).setCell ⟨g, 3, none⟩ (.int .i64 x1.u)) = v7 at hO7 hR7 hF7 hC7 ⊢
              have c0 : v7.cell? ⟨C, 0, none⟩ = some (.int .i64 x0.f) := hC7.cell 0
              have c1 : v7.cell? ⟨C, 1, none⟩ = some (.int .i64 x0.t) := hC7.cell 1
              have c2 : v7.cell? ⟨C, 2, none⟩ = some (.int .i64 x0.r) := hC7.cell 2
              have c3 : v7.cell? ⟨C, 3, none⟩ = some (.int .i64 x0.u) := hC7.cell 3
              obtain ⟨x2, b2, off2, HX2, he2, -, p0, p1, p2, p3⟩ := CarsAt.get (own_cars hO7 (by rw [List.length_set, HNL.out])).slAt (show 3 < 4 by omega)
              injection he2 with he2; injection he2 with e1 e2; subst e1; subst e2
              clear HX2
              replace p0 : v7.cell? ⟨g, 12, none⟩ = some (.int .i64 x2.f) := p0
              have fa0 := ownV_free hO7 12
              replace p1 : v7.cell? ⟨g, 13, none⟩ = some (.int .i64 x2.t) := p1
              have fa1 := ownV_free hO7 13
              replace p2 : v7.cell? ⟨g, 14, none⟩ = some (.int .i64 x2.r) := p2
              have fa2 := ownV_free hO7 14
              replace p3 : v7.cell? ⟨g, 15, none⟩ = some (.int .i64 x2.u) := p3
              have fa3 := ownV_free hO7 15
              have hO8 : ((((v7.setCell ⟨g, 12, none⟩ (.int .i64 x0.f)).setCell ⟨g, 13, none⟩ (.int .i64 x0.t)).setCell ⟨g, 14, none⟩ (.int .i64 x0.r)).setCell ⟨g, 15, none⟩ (.int .i64 x0.u)).ownsRow w.heap.size 24 4 (.slice (some ⟨g, 0, none⟩) 4 cap) 4 (cc ((ns.set 0 x1).set 3 x0)).flatten := ownC_set hO7 3 x0
              have hR8 := ((((hR7.set (p := ⟨g, 12, none⟩) hgR (.int .i64 x0.f)).set (p := ⟨g, 13, none⟩) hgR (.int .i64 x0.t)).set (p := ⟨g, 14, none⟩) hgR (.int .i64 x0.r)).set (p := ⟨g, 15, none⟩) hgR (.int .i64 x0.u))
              have hF8 := ((((hF7.far (p := ⟨g, 12, none⟩) hgw (.int .i64 x0.f)).far (p := ⟨g, 13, none⟩) hgw (.int .i64 x0.t)).far (p := ⟨g, 14, none⟩) hgw (.int .i64 x0.r)).far (p := ⟨g, 15, none⟩) hgw (.int .i64 x0.u))
              have HO8 := Lib.hid hO8
              have HR8 := Lib.hid hR8
              have HF8 := Lib.hid hF8
              clear hO7 hR7 hF7 hC7 hO8 hR8 hF8
              go_wp2_with fail
              go_meet
              case rel => exact ⟨_, by rw [List.length_set, List.length_set, HNL.out], HO8.out, HR8.out.more (by omega), HF8.out⟩
            · obtain ⟨x0, b0, off0, HX0, he0, -, p0, p1, p2, p3⟩ := CarsAt.get (own_cars hO5 HNL.out).slAt (show 0 < 5 by omega)
              obtain ⟨x1, b1, off1, HX1, he1, -, q0, q1, q2, q3⟩ := CarsAt.get (own_cars hO5 HNL.out).slAt (show 4 < 5 by omega)
              injection he0 with he0; injection he0 with e1 e2; subst e1; subst e2
              injection he1 with he1; injection he1 with e1 e2; subst e1; subst e2
              clear HX0 HX1
              replace p0 : w5.cell? ⟨g, 0, none⟩ = some (.int .i64 x0.f) := p0
              replace q0 : w5.cell? ⟨g, 16, none⟩ = some (.int .i64 x1.f) := q0
              replace p1 : w5.cell? ⟨g, 1, none⟩ = some (.int .i64 x0.t) := p1
              replace q1 : w5.cell? ⟨g, 17, none⟩ = some (.int .i64 x1.t) := q1
              replace p2 : w5.cell? ⟨g, 2, none⟩ = some (.int .i64 x0.r) := p2
              replace q2 : w5.cell? ⟨g, 18, none⟩ = some (.int .i64 x1.r) := q2
              replace p3 : w5.cell? ⟨g, 3, none⟩ = some (.int .i64 x0.u) := p3
              replace q3 : w5.cell? ⟨g, 19, none⟩ = some (.int .i64 x1.u) := q3
              have hb6 : Below w5.heap.size w5 (w5.alloc (.cells #[.int .i64 x0.f, .int .i64 x0.t, .int .i64 x0.r, .int .i64 x0.u] 24)) := (Below.refl _ _).alloc (Nat.le_refl _) _
              have hC6 : Whole (w5.alloc (.cells #[.int .i64 x0.f, .int .i64 x0.t, .int .i64 x0.r, .int .i64 x0.u] 24)) w5.heap.size 24 [.int .i64 x0.f, .int .i64 x0.t, .int .i64 x0.r, .int .i64 x0.u] := Whole.new w5 _ _
              have hO6 := own_keep hO5 hb6
              have hR6 := hR5.below hb6
              have hF6 := hF5.below hb6
              go_upto_region 14 with fail
              generalize w5.alloc (.cells #[.int .i64 x0.f, .int .i64 x0.t, .int .i64 x0.r, .int .i64 x0.u] 24) = v6 at hb6 hC6 hO6 hR6 hF6 ⊢
              obtain ⟨C, HC⟩ : ∃ C, Hid (C = w5.heap.size) := ⟨_, rfl⟩
              have hgC' : g ≠ C := by rw [HC.out]; exact hgC
              rw [← HC.out] at hC6 ⊢
              have hgw : w.heap.size ≤ g := hg5.1
              have hgR : R < g := by omega
              replace p0 : v6.cell? ⟨g, 0, none⟩ = some (.int .i64 x0.f) := (hb6.cell (p := ⟨g, 0, none⟩) hg5.2).trans p0
              replace q0 : v6.cell? ⟨g, 16, none⟩ = some (.int .i64 x1.f) := (hb6.cell (p := ⟨g, 16, none⟩) hg5.2).trans q0
              have fa0 := ownV_free hO6 0
              replace p1 : v6.cell? ⟨g, 1, none⟩ = some (.int .i64 x0.t) := (hb6.cell (p := ⟨g, 1, none⟩) hg5.2).trans p1
              replace q1 : v6.cell? ⟨g, 17, none⟩ = some (.int .i64 x1.t) := (hb6.cell (p := ⟨g, 17, none⟩) hg5.2).trans q1
              have fa1 := ownV_free hO6 1
              replace p2 : v6.cell? ⟨g, 2, none⟩ = some (.int .i64 x0.r) := (hb6.cell (p := ⟨g, 2, none⟩) hg5.2).trans p2
              replace q2 : v6.cell? ⟨g, 18, none⟩ = some (.int .i64 x1.r) := (hb6.cell (p := ⟨g, 18, none⟩) hg5.2).trans q2
              have fa2 := ownV_free hO6 2
              replace p3 : v6.cell? ⟨g, 3, none⟩ = some (.int .i64 x0.u) := (hb6.cell (p := ⟨g, 3, none⟩) hg5.2).trans p3
              replace q3 : v6.cell? ⟨g, 19, none⟩ = some (.int .i64 x1.u) := (hb6.cell (p := ⟨g, 19, none⟩) hg5.2).trans q3
              have fa3 := ownV_free hO6 3
              have hO7 : ((((v6.setCell ⟨g, 0, none⟩ (.int .i64 x1.f)).setCell ⟨g, 1, none⟩ (.int .i64 x1.t)).setCell ⟨g, 2, none⟩ (.int .i64 x1.r)).setCell ⟨g, 3, none⟩ (.int .i64 x1.u)).ownsRow w.heap.size 24 4 (.slice (some ⟨g, 0, none⟩) 5 cap) 5 (cc (ns.set 0 x1)).flatten := ownC_set hO6 0 x1
              have hR7 := ((((hR6.set (p := ⟨g, 0, none⟩) hgR (.int .i64 x1.f)).set (p := ⟨g, 1, none⟩) hgR (.int .i64 x1.t)).set (p := ⟨g, 2, none⟩) hgR (.int .i64 x1.r)).set (p := ⟨g, 3, none⟩) hgR (.int .i64 x1.u))
              have hF7 := ((((hF6.far (p := ⟨g, 0, none⟩) hgw (.int .i64 x1.f)).far (p := ⟨g, 1, none⟩) hgw (.int .i64 x1.t)).far (p := ⟨g, 2, none⟩) hgw (.int .i64 x1.r)).far (p := ⟨g, 3, none⟩) hgw (.int .i64 x1.u))
              have hC7 := ((((hC6.far (p := ⟨g, 0, none⟩) hgC'.symm (.int .i64 x1.f)).far (p := ⟨g, 1, none⟩) hgC'.symm (.int .i64 x1.t)).far (p := ⟨g, 2, none⟩) hgC'.symm (.int .i64 x1.r)).far (p := ⟨g, 3, none⟩) hgC'.symm (.int .i64 x1.u))
              clear hO5 hR5 hF5 hb6 hO6 hR6 hF6 hC6 hg5 hgC hCR
              go_upto_region 15 with fail
              clear p0 p1 p2 p3 q0 q1 q2 q3 fa0 fa1 fa2 fa3
              generalize ((((v6.setCell ⟨g, 0, none⟩ (.int .i64 x1.f)).setCell ⟨g, 1, none⟩ (.int .i64 x1.t)).setCell ⟨g, 2, none⟩ (.int .i64 x1.r)).setCell ⟨g, 3, none⟩ (.int .i64 x1.u)) = v7 at hO7 hR7 hF7 hC7 ⊢
              have c0 : v7.cell? ⟨C, 0, none⟩ = some (.int .i64 x0.f) := hC7.cell 0
              have c1 : v7.cell? ⟨C, 1, none⟩ = some (.int .i64 x0.t) := hC7.cell 1
              have c2 : v7.cell? ⟨C, 2, none⟩ = some (.int .i64 x0.r) := hC7.cell 2
              have c3 : v7.cell? ⟨C, 3, none⟩ = some (.int .i64 x0.u) := hC7.cell 3
              obtain ⟨x2, b2, off2, HX2, he2, -, p0, p1, p2, p3⟩ := CarsAt.get (own_cars hO7 (by rw [List.length_set, HNL.out])).slAt (show 4 < 5 by omega)
              injection he2 with he2; injection he2 with e1 e2; subst e1; subst e2
              clear HX2
              replace p0 : v7.cell? ⟨g, 16, none⟩ = some (.int .i64 x2.f) := p0
              have fa0 := ownV_free hO7 16
              replace p1 : v7.cell? ⟨g, 17, none⟩ = some (.int .i64 x2.t) := p1
              have fa1 := ownV_free hO7 17
              replace p2 : v7.cell? ⟨g, 18, none⟩ = some (.int .i64 x2.r) := p2
              have fa2 := ownV_free hO7 18
              replace p3 : v7.cell? ⟨g, 19, none⟩ = some (.int .i64 x2.u) := p3
              have fa3 := ownV_free hO7 19
              have hO8 : ((((v7.setCell ⟨g, 16, none⟩ (.int .i64 x0.f)).setCell ⟨g, 17, none⟩ (.int .i64 x0.t)).setCell ⟨g, 18, none⟩ (.int .i64 x0.r)).setCell ⟨g, 19, none⟩ (.int .i64 x0.u)).ownsRow w.heap.size 24 4 (.slice (some ⟨g, 0, none⟩) 5 cap) 5 (cc ((ns.set 0 x1).set 4 x0)).flatten := ownC_set hO7 4 x0
              have hR8 := ((((hR7.set (p := ⟨g, 16, none⟩) hgR (.int .i64 x0.f)).set (p := ⟨g, 17, none⟩) hgR (.int .i64 x0.t)).set (p := ⟨g, 18, none⟩) hgR (.int .i64 x0.r)).set (p := ⟨g, 19, none⟩) hgR (.int .i64 x0.u))
              have hF8 := ((((hF7.far (p := ⟨g, 16, none⟩) hgw (.int .i64 x0.f)).far (p := ⟨g, 17, none⟩) hgw (.int .i64 x0.t)).far (p := ⟨g, 18, none⟩) hgw (.int .i64 x0.r)).far (p := ⟨g, 19, none⟩) hgw (.int .i64 x0.u))
              have HO8 := Lib.hid hO8
              have HR8 := Lib.hid hR8
              have HF8 := Lib.hid hF8
              clear hO7 hR7 hF7 hC7 hO8 hR8 hF8
              go_wp2_with fail
              go_meet
              case rel => exact ⟨_, by rw [List.length_set, List.length_set, HNL.out], HO8.out, HR8.out.more (by omega), HF8.out⟩
      case rest =>
        obtain ⟨ns', hnl', hOT, hRT, hFT⟩ := hcut
        have HNT := Lib.hid hnl'
        clear hnl' hO5 hR5 hF5 HNL
        go_wp2_with fail
        refine (odd_any w0 _ R A n c bs (J + 70) q hRT (by omega) (by omega) hq).mono ?_; rintro e w6 ⟨o, rfl, -, hR6, hf6⟩
        have hO6 := ownsRow_fr1 hOT hf6 hRl
        have hF6 := hFT.trans hf6
        clear hOT hRT hFT hf6
        cases o
        · go_wp2
          go_ret
          exact ⟨_, _, _, _, rfl, own_cars hO6 HNT.out, by omega, hR6.more (by omega), hF6⟩
        · go_wp2_with fail
          refine (pick_any w0 _ R A n c bs (J + 70 + 1) 3 hR6 (by omega)).mono ?_; rintro e w7 ⟨v, rfl, hv0, hv1, -, hR7, hf7⟩
          replace hv1 := hv1 (by omega)
          have hO7 := ownsRow_fr1 hO6 hf7 hRl
          have hF7 := hF6.trans hf7
          clear hO6 hR6 hF6 hf7
          have hv : v = 0 ∨ v = 1 ∨ v = 2 := by omega
          rcases hv with rfl | rfl | rfl
          · go_wp2
            go_ret
            have hW : Whole (w7.alloc (.cells (cc (List.replicate 7 ⟨0, 0, 0, 0⟩)).flatten.toArray 24)) w7.heap.size 24 (cc (List.replicate 7 ⟨0, 0, 0, 0⟩)).flatten := Whole.new w7 _ _
            have ho : OwnAt (w7.alloc (.cells (cc (List.replicate 7 ⟨0, 0, 0, 0⟩)).flatten.toArray 24)) w.heap.size 24 4 (.slice (some ⟨w7.heap.size, 0, none⟩) 7 7) 7 (cc (List.replicate 7 ⟨0, 0, 0, 0⟩)) :=
              hW.own (by simp [cc]) (by intro r hr; simp [cc] at hr; subst hr; rfl) hF7.size (by unfold maxLen; omega)
            have hb : Below w7.heap.size w7 (w7.alloc (.cells (cc (List.replicate 7 ⟨0, 0, 0, 0⟩)).flatten.toArray 24)) := (Below.refl _ _).alloc (Nat.le_refl _) _
            exact ⟨_, _, _, _, rfl, ho, by omega, (hR7.below hb).more (by omega), hF7.below hb⟩
          · clear hmk
            go_wp2_with fail
            refine (l20CarOf_any w0 _ R A n c bs (J + 70 + 1 + 1) 40 1 hR7 (by omega) (by omega) (by omega) (by omega) (by omega)).mono ?_; rintro e w8 ⟨z0, z1, z2, z3, rfl, -, hR8, hf8⟩
            have hO8 := ownsRow_fr1 hO7 hf8 hRl
            have hF8 := hF7.trans hf8
            clear hO7 hR7 hF7 hf8
            go_wp2_with (at_builtin; refine wpList_moreC (base := w.heap.size) rfl (.tmp 87) (.tmp 90) rfl hF8.size hO8 ⟨z0, z1, z2, z3⟩ rfl rfl (by omega) ?_; intro g9 cap9 w9 hO9 hb9)
            go_ret
            exact ⟨_, _, _, _, rfl, own_cars hO9 (by rw [List.length_append, HNT.out]; rfl), by omega, (hR8.belowB hb9 hRl).more (by omega), hF8.belowB hb9 (Nat.le_refl _)⟩
          · clear hmk
            go_wp2_with fail
            refine (l20CarOf_any w0 _ R A n c bs (J + 70 + 1 + 1) 50 0 hR7 (by omega) (by omega) (by omega) (by omega) (by omega)).mono ?_; rintro e w8 ⟨z0, z1, z2, z3, rfl, -, hR8, hf8⟩
            have hO8 := ownsRow_fr1 hO7 hf8 hRl
            have hF8 := hF7.trans hf8
            clear hO7 hR7 hF7 hf8
            go_wp2_with fail
            refine (l20CarOf_any w0 _ R A n c bs (J + 70 + 1 + 1 + 10) 50 0 hR8 (by omega) (by omega) (by omega) (by omega) (by omega)).mono ?_; rintro e w9 ⟨y0, y1, y2, y3, rfl, -, hR9, hf9⟩
            have hO9 := ownsRow_fr1 hO8 hf9 hRl
            have hF9 := hF8.trans hf9
            clear hO8 hR8 hF8 hf9
            go_wp2_with (at_builtin; refine wpList_moreC2 (base := w.heap.size) rfl (.tmp 75) (.tmp 80) rfl hF9.size hO9 ⟨z0, z1, z2, z3⟩ ⟨y0, y1, y2, y3⟩ rfl rfl (by omega) ?_; intro ga capa wa hOa hba)
            go_ret
            exact ⟨_, _, _, _, rfl, own_cars hOa (by rw [List.length_append, HNT.out]; rfl), by omega, (hR9.belowB hba hRl).more (by omega), hF9.belowB hba (Nat.le_refl _)⟩
end Go.Proofs.YtpipbkefelcmbaaDoor
