/-
  PlacesFor of the program and of the reference.
-/
import Derived.Test.YtpipbkefelcmbaaDoorSel
import Derived.Test.YtpipbkefelcmbaaDoorPlaces
import Derived.Test.YtpipbkefelcmbaaDoorMarks
import Derived.Deep.AppendLies
import Derived.Deep.RegionLaw
import Derived.Outline
namespace Go.Proofs.YtpipbkefelcmbaaDoor
open Go.ChangeShapes Go.WideShapes Go.ChangeAt Go.RowKit

/-- The call answers the list rs of its own (the world before it: w). -/
theorem ownR_mk {w w' : World} {A : Option Addr} {n c : Nat} {rs : List Int} {e : Ending} (he : e = .returned (.slice A n c)) (ho : OwnAt w' w.heap.size 3 1 (.slice A n c) n (ic rs)) (hb : Below w.heap.size w w') : OwnR w rs e w' :=
  ⟨A, n, c, he, by have := ho.len; simpa [ic] using this.symm, ho, hb⟩
theorem own_nil (w : World) (base : Nat) : w.ownsRow base 3 1 (.slice none 0 0) 0 [] := ⟨rfl, .inl ⟨rfl, rfl⟩⟩
theorem own_empty {w1 : World} {base : Nat} (h : base ≤ w1.heap.size) : (w1.alloc (.cells #[] 3)).ownsRow base 3 1 (.slice (some ⟨w1.heap.size, 0, none⟩) 0 0) 0 [] :=
  ⟨rfl, .inr ⟨w1.heap.size, 0, #[], rfl, h, Whole.new w1 3 [], Nat.le_refl _, by unfold maxLen; omega, rfl, rfl⟩⟩
theorem own_len {w : World} {base : Nat} {v : Value} {m : Nat} {xs : List Int} (h : w.ownsRow base 3 1 v m (xs.map (Value.int .i64))) : m = xs.length := by
  have := h.1; simp at this; omega

theorem own_below {w w' : World} {base sz n : Nat} {e : TypeId} {v : Value} {xs : List Value} (h : w.ownsRow base e sz v n xs) (hb : Below w.heap.size w w') : w'.ownsRow base e sz v n xs :=
  h.kept (row := none) ⟨hb.os, hb.tape, hb.output, hb.size, fun k hk _ => hb.block k hk⟩ (by cases v.ownBlock <;> simp)
/-- One number more behind a list of the call's own. -/
theorem wpList_push {ops : Array Oper} {rest : List Oper} {o : Oper} {a : Act} {Q : Exit → Act → World → Prop} {w0 wr : World} (hgd : o.guard = none) (s x : Operand)
    (ho : o.op = .call { callee := .builtin .append, args := #[s, x], argTypes := #[42, 42] })
    {v : Value} {n : Nat} {xs : List Int} (hbw : Below w0.heap.size w0 wr) (hown : wr.ownsRow w0.heap.size 3 1 v n (xs.map (Value.int .i64))) (z : Int) (hs : a.eval s = v)
    (hx : a.eval x = .slice (some ⟨wr.heap.size, 0, none⟩) 1 1) (hn : n ≤ 1048576)
    (h : ∀ g cap w', w'.ownsRow w0.heap.size 3 1 (.slice (some ⟨g, 0, none⟩) (n + 1) cap) (n + 1) ((xs ++ [z]).map (Value.int .i64)) → Below w0.heap.size w0 w' → wpList Tryd.prog ops Q rest (a.put o.dst (.slice (some ⟨g, 0, none⟩) (n + 1) cap)) w') :
    wpList Tryd.prog ops Q (o :: rest) a (wr.alloc (.cells #[.int .i64 z] 3)) := by
  obtain ⟨i0, hi, hz0, hz1, hz2⟩ := info_parts int_info
  have hsz := hbw.size
  refine wpList_append_lies _ hgd s x 42 ho w0.heap.size 3 i0 (.int .i64 0) 1 8 Tryd.underlying42 hi hz0 hz1 hz2 rfl (by decide) v n _ hs (hown.alloc _) ⟨wr.heap.size, 0, none⟩ 1 1 [.int .i64 z] hx rfl (new_cells wr _ [.int .i64 z]) (one_cells _) (by omega) (by unfold maxLen; omega) (by omega) (by simp; omega) _ rfl ?_
  intro g cap w' hown' hgrow _ _
  refine h g cap w' (by simpa using hown') ((hbw.alloc hbw.size _).grown hgrow (by simp; omega) (fun q hq => (hown.lt q hq).1))

set_option maxHeartbeats 1000000 in
theorem placesFor_any (x : C4) (A : Option Addr) (n c : Nat) (ps : List P3) (w : World) (hn : n ≤ 9223372036854775807) (hx : PlacesAt w A n ps) :
    Calls Tryd.prog 25 #[.agg #[.int .i64 x.f, .int .i64 x.t, .int .i64 x.r, .int .i64 x.u], .slice A n c] w (OwnR w (forL x ps)) := by
  have HL := Lib.hid hx.len
  cases hX : x.ok
  · have HX := Lib.hid hX
    unfold C4.ok at hX
    go_enter Tryd.func25, Tryd.ntmps25
    go_wp2_with fail
    refine (carValid_any _ _ _ _ _).mono ?_; rintro e w1 ⟨rfl, hb1⟩
    go_wp2
    go_ret
    have hno : forB x ps = false := by unfold forB; rw [HX.out]; rfl
    refine ownR_mk rfl ?_ (((Below.refl _ _).alloc (Nat.le_refl _) _).trans (hb1.mono (by simp)))
    rw [forL_no hno]
    exact own_ints (own_nil _ _)
  have HX := Lib.hid hX
  unfold C4.ok at hX
  cases hP : placesB ps
  · have HP := Lib.hid hP
    go_enter Tryd.func25, Tryd.ntmps25
    go_wp2_with fail
    refine (carValid_any _ _ _ _ _).mono ?_; rintro e w1 ⟨rfl, hb1⟩
    have hbw1 := ((Below.refl w.heap.size w).alloc (Nat.le_refl _) (.cells #[.int .i64 x.f, .int .i64 x.t, .int .i64 x.r, .int .i64 x.u] 24)).trans (hb1.mono (by simp))
    go_wp2_with fail
    refine (placesValid_any A n c ps _ hn (hx.below hbw1)).mono ?_; rintro e w2 ⟨rfl, hb2⟩
    go_wp2
    go_ret
    have hno : forB x ps = false := by unfold forB; rw [HP.out, Bool.and_false]
    refine ownR_mk rfl ?_ (below_next hbw1 hb2)
    rw [forL_no hno]
    exact own_ints (own_nil _ _)
  have HP := Lib.hid hP
  have HB : Hid (forB x ps = true) := Lib.hid (by unfold forB; rw [HX.out, HP.out]; rfl)
  have hn6 : n ≤ 6 := by have := placesB_len HP.out; have := HL.out; omega
  go_enter Tryd.func25, Tryd.ntmps25
  go_wp2_with fail
  refine (carValid_any _ _ _ _ _).mono ?_; rintro e w1 ⟨rfl, hb1⟩
  have hcp := ((Whole.new w 24 [.int .i64 x.f, .int .i64 x.t, .int .i64 x.r, .int .i64 x.u]).below hb1)
  have hbw1 := ((Below.refl w.heap.size w).alloc (Nat.le_refl _) (.cells #[.int .i64 x.f, .int .i64 x.t, .int .i64 x.r, .int .i64 x.u] 24)).trans (hb1.mono (by simp))
  go_wp2_with fail
  refine (placesValid_any A n c ps _ hn (hx.below hbw1)).mono ?_; rintro e w2 ⟨rfl, hb2⟩
  replace hbw1 := below_next hbw1 hb2
  replace hcp := hcp.below hb2
  have hw2 : w.heap.size < w2.heap.size := hcp.lt
  go_wp2
  clear hX hP hb1 hb2
  have hcx := hcp
  obtain ⟨L, HLw⟩ : ∃ L, Hid (L = w.heap.size) := ⟨_, rfl⟩
  rw [← HLw.out] at hcx hw2 hcp ⊢
  go_loopw [5, 18] (fun v i wr => ∃ k m : Nat, k ≤ n ∧ m ≤ k ∧ i = .int .i64 k ∧ wr.ownsRow w2.heap.size 3 1 v m ((selK (fitAt x ps) k).map (Value.int .i64)) ∧ Below w2.heap.size w2 wr) (fun _ i _ => n - (intOf i).toNat)
  case atStart => exact ⟨0, 0, Nat.zero_le _, Nat.le_refl _, rfl, own_nil _ _, Below.refl _ _⟩
  case round =>
    obtain ⟨k, m, hk, hmk, rfl, hown, hbw⟩ := hrel
    by_cases hlt : k < n
    · obtain ⟨y, b, off, HY, rfl, hb, hd0, hd1, hd2⟩ := ((hx.below hbw1).below hbw).get hlt
      have hcr := hcx.below hbw
      have hLr := hcr.lt
      have hc0 := (hcr.alloc (.cells #[.int .i64 y.f, .int .i64 y.t, .int .i64 y.r] 26)).cell 0
      have hc1 := (hcr.alloc (.cells #[.int .i64 y.f, .int .i64 y.t, .int .i64 y.r] 26)).cell 1
      have hc2 := (hcr.alloc (.cells #[.int .i64 y.f, .int .i64 y.t, .int .i64 y.r] 26)).cell 2
      have hc3 := (hcr.alloc (.cells #[.int .i64 y.f, .int .i64 y.t, .int .i64 y.r] 26)).cell 3
      simp only [List.getElem?_cons_zero, List.getElem?_cons_succ] at hc0 hc1 hc2 hc3
      have hfa : Hid (fitAt x ps k = fitP x y) := Lib.hid (fitAt_get HY)
      cases hf : fitP x y
      all_goals
        rw [hf] at hfa
        unfold fitP at hf
        go_wp2_with fail
        refine (fits_any _ _ _ _ _ _ _ _).mono ?_; rintro e w3 ⟨rfl, hb3⟩
        rw [hf]
        have hb3' : Below wr.heap.size wr w3 := ((Below.refl _ _).alloc (Nat.le_refl _) _).trans (hb3.mono (by simp))
        have hown3 := own_below hown hb3'
        have hbw3 := below_next hbw hb3'
        clear hb3 hown
      · go_wp2
        go_roundw
        case rel => exact ⟨k + 1, m, by omega, by omega, by go_num, by rw [selK_no hfa.out]; exact hown3, hbw3⟩
        case measure => simp [intOf]; omega
      · go_wp2_with (at_builtin; refine wpList_push rfl (.tmp 26) (.tmp 28) rfl hbw3 hown3 _ rfl rfl (by omega) ?_; intro g cap w4 hown4 hbw4)
        go_roundw
        case rel => exact ⟨k + 1, m + 1, by omega, by omega, by go_num, by rw [selK_yes hfa.out]; exact hown4, hbw4⟩
        case measure => simp [intOf]; omega
    · go_wp2
      go_ret
      have ho := own_ints hown
      obtain ⟨A', c', rfl, _, _⟩ := ho.form
      have hkn : k = ps.length := by have := HL.out; omega
      refine ownR_mk rfl ?_ (below_next hbw1 hbw)
      rw [forL_yes HB.out, ← hkn]
      exact ho.base hbw1.size
set_option maxHeartbeats 1000000 in
theorem specPlacesFor_any (x : C4) (A : Option Addr) (n c : Nat) (ps : List P3) (w : World) (hn : n ≤ 9223372036854775807) (hx : PlacesAt w A n ps) :
    Calls Tryd.prog 27 #[.agg #[.int .i64 x.f, .int .i64 x.t, .int .i64 x.r, .int .i64 x.u], .slice A n c] w (OwnR w (forL x ps)) := by
  have HL := Lib.hid hx.len
  have hbs : ∀ w : World, (Instr.buildSlice 42 0 #[]).run Tryd.prog w = .ok (.slice (some ⟨w.heap.size, 0, none⟩) 0 0) (w.alloc (.cells #[] 3)) := fun _ => by kernel_rfl
  go_enter Tryd.func27, Tryd.ntmps27
  go_wp2
  clear hbs
  have hcp : Whole (w.alloc (.cells #[.int .i64 x.f, .int .i64 x.t, .int .i64 x.r, .int .i64 x.u] 24)) w.heap.size 24 [.int .i64 x.f, .int .i64 x.t, .int .i64 x.r, .int .i64 x.u] := Whole.new w 24 _
  have hb0 : Below w.heap.size w (w.alloc (.cells #[.int .i64 x.f, .int .i64 x.t, .int .i64 x.r, .int .i64 x.u] 24)) := (Below.refl _ _).alloc (Nat.le_refl _) _
  have hsz : (w.alloc (.cells #[.int .i64 x.f, .int .i64 x.t, .int .i64 x.r, .int .i64 x.u] 24)).heap.size = w.heap.size + 1 := by simp
  have hown0 := own_empty (w1 := w.alloc (.cells #[.int .i64 x.f, .int .i64 x.t, .int .i64 x.r, .int .i64 x.u] 24)) (Nat.le_refl _)
  generalize w.alloc (.cells #[.int .i64 x.f, .int .i64 x.t, .int .i64 x.r, .int .i64 x.u] 24) = w0 at hcp hb0 hsz hown0 ⊢
  rw [hsz] at hown0
  have HSZ := Lib.hid hsz
  clear hsz
  obtain ⟨L, HLw⟩ : ∃ L, Hid (L = w.heap.size) := ⟨_, rfl⟩
  rw [← HLw.out] at hcp hown0 ⊢
  go_loopw [5, 6] (fun v i wr => ∃ k m : Nat, k ≤ n ∧ m ≤ k ∧ i = .int .i64 k ∧ wr.ownsRow w0.heap.size 3 1 v m ((selK (fitAt x ps) k).map (Value.int .i64)) ∧ Below w0.heap.size w0 wr ∧ (0 < k → forB x ps = true)) (fun _ i _ => n - (intOf i).toNat)
  case atStart => exact ⟨0, 0, Nat.zero_le _, Nat.le_refl _, rfl, by rw [HSZ.out, ← HLw.out]; exact hown0, (Below.refl _ _).alloc (Nat.le_refl _) _, fun h => by omega⟩
  case round =>
    obtain ⟨k, m, hk, hmk, rfl, hown, hbw, hfor⟩ := hrel
    have HFor := Lib.hid hfor
    clear hown0 hfor
    have hLr := (hcp.below hbw).lt
    by_cases hlt : k < n
    · cases hX : x.ok
      all_goals
        have HX := Lib.hid hX
        unfold C4.ok at hX
        have hc := (hcp.below hbw).cell
        have hc0 := hc 0
        have hc1 := hc 1
        have hc2 := hc 2
        have hc3 := hc 3
        clear hc
        simp only [List.getElem?_cons_zero, List.getElem?_cons_succ] at hc0 hc1 hc2 hc3
        go_wp2_with fail
        refine (specCarValid_any _ _ _ _ _).mono ?_; rintro e w2 ⟨rfl, hb2⟩
        rw [hX]
        have hown2 := own_below hown hb2
        have hbw2 := below_next hbw hb2
        clear hown hbw hb2 hX
      · go_wp2
        go_ret
        have hno : forB x ps = false := by unfold forB; rw [HX.out]; rfl
        have hk0 : k = 0 := by rcases Nat.eq_zero_or_pos k with h | h; exact h; rw [HFor.out h] at hno; cases hno
        subst hk0
        have ho := own_ints hown2
        obtain ⟨A', c', rfl, _, _⟩ := ho.form
        refine ownR_mk rfl ?_ (hb0.trans (hbw2.mono hb0.size))
        rw [forL_no hno]
        exact ho.base hb0.size
      · go_wp2_with fail
        refine (specPlacesValid_any A n c ps _ hn (hx.below (hb0.trans (hbw2.mono hb0.size)))).mono ?_; rintro e w3 ⟨rfl, hb3⟩
        have hown3 := own_below hown2 hb3
        have hbw3 := below_next hbw2 hb3
        clear hown2 hbw2 hb3
        cases hP : placesB ps
        · have HP := Lib.hid hP
          go_wp2
          go_ret
          have hno : forB x ps = false := by unfold forB; rw [HP.out, Bool.and_false]
          have hk0 : k = 0 := by rcases Nat.eq_zero_or_pos k with h | h; exact h; rw [HFor.out h] at hno; cases hno
          subst hk0
          have ho := own_ints hown3
          obtain ⟨A', c', rfl, _, _⟩ := ho.form
          refine ownR_mk rfl ?_ (hb0.trans (hbw3.mono hb0.size))
          rw [forL_no hno]
          exact ho.base hb0.size
        · have HP := Lib.hid hP
          have HB : Hid (forB x ps = true) := Lib.hid (by unfold forB; rw [HX.out, HP.out]; rfl)
          have hn6 : n ≤ 6 := by have := placesB_len HP.out; have := HL.out; omega
          go_wp2
          clear hP
          have hc := (hcp.below hbw3).cell
          have hc0 := hc 0
          have hc1 := hc 1
          have hc2 := hc 2
          have hc3 := hc 3
          clear hc
          simp only [List.getElem?_cons_zero, List.getElem?_cons_succ] at hc0 hc1 hc2 hc3
          have hLr3 := (hcp.below hbw3).lt
          obtain ⟨y, b, off, HY, rfl, hb, hd0, hd1, hd2⟩ := (hx.below (hb0.trans (hbw3.mono hb0.size))).get hlt
          have hfa : Hid (fitAt x ps k = fitP x y) := Lib.hid (fitAt_get HY)
          have h0i : (0 : Int) ≤ (k : Int) := by omega
          have h1i : (k : Int) < (n : Int) := by omega
          go_region_held3 (fun w' => w'.cell? ⟨L, 0, none⟩ = some (.int .i64 x.f) ∧ w'.cell? ⟨L, 1, none⟩ = some (.int .i64 x.t) ∧ w'.cell? ⟨L, 2, none⟩ = some (.int .i64 x.r) ∧ w'.cell? ⟨L, 3, none⟩ = some (.int .i64 x.u) ∧
              w'.cell? ⟨b, off + k * 3, none⟩ = some (.int .i64 y.f) ∧ w'.cell? ⟨b, off + k * 3 + 1, none⟩ = some (.int .i64 y.t) ∧ w'.cell? ⟨b, off + k * 3 + 2, none⟩ = some (.int .i64 y.r) ∧ Below w3.heap.size w3 w')
            (first | exact ⟨hc0, hc1, hc2, hc3, hd0, hd1, hd2, (Below.refl _ _).drew⟩ | (rename_i hS; exact ⟨(hb1.cell hLr3).trans hc0, (hb1.cell hLr3).trans hc1, (hb1.cell hLr3).trans hc2, (hb1.cell hLr3).trans hc3, (hb1.cell hb).trans hd0, (hb1.cell hb).trans hd1, (hb1.cell hb).trans hd2, (Below.refl _ _).drew.trans hb1⟩))
            (first | (go_at_call 13; refine (specFits_any _ _ _ _ _ _ _ _).mono ?_; rintro e w4 ⟨rfl, hb1⟩))
          have hb4 : Below w3.heap.size w3 w4 := (Below.refl _ _).drew.trans hb1
          have hown4 := own_below hown3 hb4
          have hbw4 := below_next hbw3 hb4
          clear hown3 hbw3 hb4 hb1
          cases hf : fitP x y
          all_goals
            rw [hf] at hfa
            unfold fitP at hf
            rw [hf]
          · go_wp2
            go_roundw
            case rel => exact ⟨k + 1, m, by omega, by omega, by go_num, by rw [selK_no hfa.out]; exact hown4, hbw4, fun _ => HB.out⟩
            case measure => simp [intOf]; omega
          · go_wp2_with (at_builtin; refine wpList_push rfl (.tmp 28) (.tmp 30) rfl hbw4 hown4 _ rfl rfl (by omega) ?_; intro g cap w5 hown5 hbw5)
            go_roundw
            case rel => exact ⟨k + 1, m + 1, by omega, by omega, by go_num, by rw [selK_yes hfa.out]; exact hown5, hbw5, fun _ => HB.out⟩
            case measure => simp [intOf]; omega
    · go_wp2
      go_ret
      have ho := own_ints hown
      obtain ⟨A', c', rfl, _, _⟩ := ho.form
      have hkn : k = ps.length := by have := HL.out; omega
      refine ownR_mk rfl ?_ (hb0.trans (hbw.mono hb0.size))
      have hl : selK (fitAt x ps) k = forL x ps := by
        rcases Nat.eq_zero_or_pos k with h | h
        · subst h
          cases hB : forB x ps
          · rw [forL_no hB]; rfl
          · rw [forL_yes hB, ← hkn]
        · rw [forL_yes (HFor.out h), ← hkn]
      rw [← hl]
      exact ho.base hb0.size
end Go.Proofs.YtpipbkefelcmbaaDoor
