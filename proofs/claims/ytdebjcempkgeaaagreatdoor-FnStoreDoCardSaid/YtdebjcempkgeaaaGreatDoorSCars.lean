/-
  l1Sorted and HallCars of the reference, as the draws use them: some list of the call's own.
-/
import Derived.Test.YtdebjcempkgeaaaGreatDoorHoleP
import Derived.Deep.RegionHeld3
import Derived.Deep.CutRange
namespace Go.Proofs.YtdebjcempkgeaaaGreatDoor
open Go.ChangeShapes Go.WideShapes Go.ChangeAt Go.RowKit

set_option maxRecDepth 100000 in
theorem wp_catI {o : Oper} {a : Act} {K : Act → World → Prop} {Q : Exit → Act → World → Prop} {w : World} (s x : Operand)
    (ho : o.op = .call { callee := .builtin .append, args := #[s, x], argTypes := #[23, 23] })
    {B n m gc : Nat} {v : Value} {A : Option Addr} {xs ys : List Int} (h0 : w.ownsRow B 3 1 v n (xs.map (Value.int .i64))) (hB : B ≤ w.heap.size) (hg : IntsAt w A m ys)
    (hs : a.eval s = v) (hA : A.isSome) (hx : a.eval x = .slice A m gc) (hn : n ≤ 1048576) (hm : m ≤ 1048576)
    (h : ∀ v' w', w'.ownsRow B 3 1 v' (n + m) ((xs ++ ys).map (Value.int .i64)) → w.grownBy w' v.ownBlock → K (a.put o.dst v') w') : o.wp Tryz.prog a w K Q := by
  obtain ⟨i0, hi, hz0, hz1, hz2⟩ := info_parts int_info
  have hyl := hg.len
  have hg0 : ∀ k z, ys[k]? = some z → ∃ b off, A = some ⟨b, off, none⟩ ∧ w.cell? ⟨b, off + k, none⟩ = some (.int .i64 z) := by
    intro k z hz
    obtain ⟨b, of2, hA, hlt, _, hc⟩ := SlAt.row hg k [.int .i64 z] (by rw [List.getElem?_map, hz]; rfl)
    have h1 := hc 0 _ rfl
    exact ⟨b, of2, hA, by simpa using h1⟩
  obtain ⟨ad, rfl⟩ := Option.isSome_iff_exists.1 hA
  refine wp_append_own w s x 23 ho B 3 i0 (.int .i64 0) 1 8 Tryz.underlying23 hi hz0 hz1 hz2 rfl (by decide) v n _ hs h0 ad m gc (ys.map (Value.int .i64)) hx (by simp; omega) ?_ ?_ (by unfold maxLen; omega) (by omega) hB ?_
  · intro j u hu
    rw [List.getElem?_map] at hu
    obtain ⟨z, hz, rfl⟩ := Option.map_eq_some_iff.1 hu
    obtain ⟨b, off, hA, hc⟩ := hg0 j z hz
    injection hA with hA
    subst hA
    have e : (⟨b, off, none⟩ : Addr).add j = ⟨b, off + j, none⟩ := by unfold Addr.add; split <;> simp_all
    rw [e]
    exact hc
  · intro u hu
    obtain ⟨z, _, rfl⟩ := List.mem_map.1 hu
    rfl
  · intro v' w' hown' hgrow _
    exact h v' w' (by simpa using hown') hgrow
theorem own_drewC {w : World} {base sz n : Nat} {e : TypeId} {v : Value} {xs : List Value} (h : w.ownsRow base e sz v n xs) : w.drew.ownsRow base e sz v n xs := h
/-- One number in a new block. -/
theorem alloc1 {w0 w : World} {base : Nat} {z : Int} (hb : Below base w0 w) (h0 : base ≤ w.heap.size) : ∃ N wn, w.alloc (.cells #[.int .i64 z] 3) = wn ∧ w.heap.size = N ∧ Whole wn N 3 [.int .i64 z] ∧ Below w.heap.size w wn ∧ Below base w0 wn :=
  ⟨_, _, rfl, rfl, Whole.new w 3 [.int .i64 z], (Below.refl _ _).alloc (Nat.le_refl _) _, hb.alloc h0 _⟩
/-- The call answers a list of its own, so many numbers. -/
def LN (w : World) (n : Nat) (e : Ending) (w' : World) : Prop :=
  ∃ (G d : Nat) (ys : List Int), e = .returned (.slice (some ⟨G, 0, none⟩) n d) ∧ w'.ownsRow w.heap.size 3 1 (.slice (some ⟨G, 0, none⟩) n d) n (ys.map (Value.int .i64)) ∧ Below w.heap.size w w'

set_option maxRecDepth 100000 in
set_option maxHeartbeats 4000000 in
theorem l1Sorted_any (b n c : Nat) (xs : List Int) (z : Int) (w : World) (hx : IntsAt w (some ⟨b, 0, none⟩) n xs) (hn : n ≤ 100) (hc : n ≤ c ∧ c ≤ maxLen) :
    Calls Tryz.prog 76 #[.slice (some ⟨b, 0, none⟩) n c, .int .i64 z] w (LN w (n + 1)) := by
  obtain ⟨hnc, hcm⟩ := hc
  unfold maxLen at hcm
  have hbs : ∀ w : World, (Instr.buildSlice 23 0 #[]).run Tryz.prog w = .ok (.slice (some ⟨w.heap.size, 0, none⟩) 0 0) (w.alloc (.cells #[] 3)) := fun _ => by kernel_rfl
  have HX := Lib.hid hx
  have hO1 := own0 (base := w.heap.size) (w1 := w) (Nat.le_refl _)
  have hB1 : Below w.heap.size w (w.alloc (.cells #[] 3)) := (Below.refl _ _).alloc (Nat.le_refl _) _
  clear hx
  go_enter Tryz.func76, Tryz.ntmps76
  go_wp2
  clear hbs
  generalize w.alloc (.cells #[] 3) = w1 at *
  go_loopw [5, 6] (fun v i wr => ∃ (k cc : Nat) (B : Option Addr) (ys : List Int), k ≤ n ∧ i = .int .i64 k ∧ v = .slice B k cc ∧ wr.ownsRow w.heap.size 3 1 (.slice B k cc) k (ys.map (Value.int .i64)) ∧ Below w.heap.size w wr) (fun _ i _ => n - (intOf i).toNat)
  case atStart => exact ⟨0, 0, _, [], Nat.zero_le _, rfl, rfl, hO1, hB1⟩
  case round =>
    obtain ⟨k, cc, B, ys, hk, rfl, rfl, hO, hbw⟩ := hrel
    clear hO1 hB1
    obtain ⟨w9, rfl⟩ : ∃ w9, w9 = wr := ⟨_, rfl⟩
    have hk1 : (0 : Int) ≤ (k : Int) := by omega
    have hk2 : (k : Int) ≤ (n : Int) := by omega
    have hk3 : (n : Int) ≤ (c : Int) := by omega
    by_cases hstop : k < n ∧ ∃ x, Hid (xs[k]? = some x) ∧ x < z
    · obtain ⟨hlt, x, HZ, hxz⟩ := hstop
      obtain ⟨x', b', off, HZ', hA, hb, hc1⟩ := (HX.out.below hbw).get hlt
      injection hA with hA; injection hA with e1 e2; subst e1; subst e2; simp only [Nat.zero_add] at hc1
      obtain rfl : x' = x := by have h1 := HZ'.out; rw [HZ.out] at h1; injection h1 with h1; exact h1.symm
      have hd : decide (x' < z) = true := by simpa using hxz
      go_wp2_with (at_builtin; (refine wpList_more (base := w.heap.size) rfl (.tmp 20) (.tmp 25) rfl hbw.size hO x' rfl rfl (by omega) ?_; intro g' c' w7 hO7 hb7))
      go_roundw
      case rel => exact ⟨k + 1, c', _, ys ++ [x'], by omega, by go_num, rfl, hO7, hbw.trans hb7⟩
      case measure => simp [intOf]; omega
    · have hO2 := hO
      have hB2 := hbw
      have hs2 := hbw.size
      have hway : k = n ∨ (k < n ∧ ∃ x, Hid (xs[k]? = some x) ∧ decide (x < z) = false) := by
        by_cases h : k = n
        · exact .inl h
        · have hlt : k < n := by omega
          obtain ⟨x', b', off, HZ', -⟩ := HX.out.get hlt
          exact .inr ⟨hlt, x', HZ', by simp; exact Int.not_lt.1 (fun h => hstop ⟨hlt, x', HZ', h⟩)⟩
      have H2 := Lib.hid hO2
      have HB2 := Lib.hid hB2
      clear hO hbw hstop hO2 hB2
      have hsome : (if c = k then (some ⟨b, 0, none⟩ : Option Addr) else some ⟨b, k, none⟩).isSome = true := by split <;> rfl
      have HI : Hid (IntsAt w (if c = k then (some ⟨b, 0, none⟩ : Option Addr) else some ⟨b, k, none⟩) (n - k) (xs.drop k)) := Lib.hid (by have := HX.out.cutM hk hnc; simpa using this)
      rcases hway with rfl | ⟨hlt, x, HZ, hd⟩
      rotate_left
      · obtain ⟨x', b', off, HZ', hA, hb, hc1⟩ := (HX.out.below HB2.out).get hlt
        injection hA with hA; injection hA with e1 e2; subst e1; subst e2; simp only [Nat.zero_add] at hc1
        obtain rfl : x' = x := by have h1 := HZ'.out; rw [HZ.out] at h1; injection h1 with h1; exact h1.symm
        go_upto_region 6 with fail
        refine wp_region_held_drew (S := (fun w' => w.heap.size ≤ w'.heap.size)) (by kernel_rfl) ?_ (fun hHeld => ?_)
        · (try dsimp only); first | exact hb9.size | exact hb8.size | exact hb7.size | exact hs2
        refine wpAnyH_take (i := 0) (v := ?vq1_0_1) (by simp only [List.getElem?_toArray, List.getElem?_cons_zero]; rfl) (by kernel_rfl) (by kernel_rfl) (by kernel_rfl) (by exact fun _ _ _ h => h) (Or.inl ⟨by rfl, ?hq1_0_1⟩) hHeld ?rq1_0_1
        case hq1_0_1 => (intro w hSw; (try dsimp only at hSw); go_simp; (try with_reducible rfl))
        try simp only [put_laws]
        refine wpAnyH_take (i := 1) (v := ?vq1_1_2) (by simp only [List.getElem?_toArray, List.getElem?_cons_succ, List.getElem?_cons_zero]; rfl) (by kernel_rfl) (by kernel_rfl) (by kernel_rfl) (by exact fun _ _ _ h => h) (Or.inl ⟨by rfl, ?hq1_1_2⟩) hHeld ?rq1_1_2
        case hq1_1_2 => (intro w hSw; (try dsimp only at hSw); go_simp; (try with_reducible rfl))
        try simp only [put_laws]
        refine wpAnyH_take (i := 4) (v := ?vq1_4_3) (by simp only [List.getElem?_toArray, List.getElem?_cons_succ, List.getElem?_cons_zero]; rfl) (by kernel_rfl) (by kernel_rfl) (by kernel_rfl) (by exact fun _ _ _ h => h) (Or.inl ⟨by rfl, ?hq1_4_3⟩) hHeld ?rq1_4_3
        case hq1_4_3 => (intro w hSw; (try dsimp only at hSw); go_simp; (try with_reducible rfl))
        try simp only [put_laws]
        refine wpAnyH_take (i := 5) (v := ?vq1_5_4) (by simp only [List.getElem?_toArray, List.getElem?_cons_succ, List.getElem?_cons_zero]; rfl) (by kernel_rfl) (by kernel_rfl) (by kernel_rfl) (by exact fun _ _ _ h => h) (Or.inl ⟨by rfl, ?hq1_5_4⟩) hHeld ?rq1_5_4
        case hq1_5_4 => (intro w hSw; (try dsimp only at hSw); go_simp; (try with_reducible rfl))
        try simp only [put_laws]
        refine wpAnyH_take (i := 6) (v := ?vq1_6_5) (by simp only [List.getElem?_toArray, List.getElem?_cons_succ, List.getElem?_cons_zero]; rfl) (by kernel_rfl) (by kernel_rfl) (by kernel_rfl) (by exact fun _ _ _ h => h) (Or.inl ⟨by rfl, ?hq1_6_5⟩) hHeld ?rq1_6_5
        case hq1_6_5 => (intro w hSw; (try dsimp only at hSw); go_simp; (try with_reducible rfl))
        try simp only [put_laws]
        refine wpAnyH_ready (rs := [2]) (by kernel_rfl) (by simp) ?_
        refine AllReadyH.cons (by simp only [List.getElem?_toArray, List.getElem?_cons_succ, List.getElem?_cons_zero]; rfl) (fun K hK => ?_) AllReadyH.nil
        go_simp
        obtain ⟨N, wn, hwn, hNn, hN, hbn, hb7⟩ := alloc1 (z := z) HB2.out.drew hs2; (first | rw [hwn, hNn] | rw [show (w9.alloc (.cells #[.int .i64 z] 3)).drew = wn from hwn, show w9.heap.size = N from hNn]); clear hwn hNn; have hO7 := own_keep (own_drewC H2.out) hbn
        refine hK.out _ _ ?_ (fun hHeld => ?_)
        · (try dsimp only); first | exact hb9.size | exact hb8.size | exact hb7.size | exact hs2
        clear hK K
        try simp only [put_laws]
        refine wpAnyH_ready (rs := [3]) (by kernel_rfl) (by simp) ?_
        refine AllReadyH.cons (by simp only [List.getElem?_toArray, List.getElem?_cons_succ, List.getElem?_cons_zero]; rfl) (fun K hK => ?_) AllReadyH.nil
        rw [if_pos (by rfl)]
        refine wp_pushI (.tmp 29) (.tmp 31) rfl hO7 hb7.size hN rfl rfl (by omega) ?_; intro g' c' w8 hO8 hgr8; have hb8 := hb7.grown hgr8 hb7.size (fun q hq => (hO7.lt q hq).1)
        refine hK.out _ _ ?_ (fun hHeld => ?_)
        · (try dsimp only); first | exact hb9.size | exact hb8.size | exact hb7.size | exact hs2
        clear hK K
        try simp only [put_laws]
        refine wpAnyH_ready (rs := [7]) (by kernel_rfl) (by simp) ?_
        refine AllReadyH.cons (by simp only [List.getElem?_toArray, List.getElem?_cons_succ, List.getElem?_cons_zero]; rfl) (fun K hK => ?_) AllReadyH.nil
        rw [if_pos (by rfl)]
        refine wp_catI (.tmp 32) (.tmp 35) rfl hO8 hb8.size (HI.out.below hb8) rfl hsome rfl (by omega) (by omega) ?_; intro v9 wz hO9 hgr9; have hb9 := hb8.grown hgr9 hb8.size (fun q hq => (hO8.lt q hq).1)
        refine hK.out _ _ ?_ (fun hHeld => ?_)
        · (try dsimp only); first | exact hb9.size | exact hb8.size | exact hb7.size | exact hs2
        clear hK K
        try simp only [put_laws]
        refine wpAnyH_take (i := 8) (v := ?vq1_8_9) (by simp only [List.getElem?_toArray, List.getElem?_cons_succ, List.getElem?_cons_zero]; rfl) (by kernel_rfl) (by kernel_rfl) (by kernel_rfl) (by exact fun _ _ _ h => h) (Or.inl ⟨by rfl, ?hq1_8_9⟩) hHeld ?rq1_8_9
        case hq1_8_9 => (intro w hSw; (try dsimp only at hSw); go_simp; (try with_reducible rfl))
        try simp only [put_laws]
        refine wpAnyH_done (by kernel_rfl) ?_ _
        obtain ⟨Gz, dz, rfl⟩ := own_form hO9 (by omega)
        rw [show k + 1 + (n - k) = n + 1 by omega] at hO9 ⊢
        go_wp2
        go_ret
        exact ⟨Gz, dz, _, rfl, hO9, hb9⟩
      · rw [Nat.sub_self] at HI
        go_upto_region 6 with fail
        refine wp_region_held_drew (S := (fun w' => w.heap.size ≤ w'.heap.size)) (by kernel_rfl) ?_ (fun hHeld => ?_)
        · (try dsimp only); first | exact hb9.size | exact hb8.size | exact hb7.size | exact hs2
        refine wpAnyH_take (i := 0) (v := ?vq2_0_1) (by simp only [List.getElem?_toArray, List.getElem?_cons_zero]; rfl) (by kernel_rfl) (by kernel_rfl) (by kernel_rfl) (by exact fun _ _ _ h => h) (Or.inl ⟨by rfl, ?hq2_0_1⟩) hHeld ?rq2_0_1
        case hq2_0_1 => (intro w hSw; (try dsimp only at hSw); go_simp; (try with_reducible rfl))
        try simp only [put_laws]
        refine wpAnyH_take (i := 1) (v := ?vq2_1_2) (by simp only [List.getElem?_toArray, List.getElem?_cons_succ, List.getElem?_cons_zero]; rfl) (by kernel_rfl) (by kernel_rfl) (by kernel_rfl) (by exact fun _ _ _ h => h) (Or.inl ⟨by rfl, ?hq2_1_2⟩) hHeld ?rq2_1_2
        case hq2_1_2 => (intro w hSw; (try dsimp only at hSw); go_simp; (try with_reducible rfl))
        try simp only [put_laws]
        refine wpAnyH_take (i := 4) (v := ?vq2_4_3) (by simp only [List.getElem?_toArray, List.getElem?_cons_succ, List.getElem?_cons_zero]; rfl) (by kernel_rfl) (by kernel_rfl) (by kernel_rfl) (by exact fun _ _ _ h => h) (Or.inl ⟨by rfl, ?hq2_4_3⟩) hHeld ?rq2_4_3
        case hq2_4_3 => (intro w hSw; (try dsimp only at hSw); go_simp; (try with_reducible rfl))
        try simp only [put_laws]
        refine wpAnyH_take (i := 5) (v := ?vq2_5_4) (by simp only [List.getElem?_toArray, List.getElem?_cons_succ, List.getElem?_cons_zero]; rfl) (by kernel_rfl) (by kernel_rfl) (by kernel_rfl) (by exact fun _ _ _ h => h) (Or.inl ⟨by rfl, ?hq2_5_4⟩) hHeld ?rq2_5_4
        case hq2_5_4 => (intro w hSw; (try dsimp only at hSw); go_simp; (try with_reducible rfl))
        try simp only [put_laws]
        refine wpAnyH_take (i := 6) (v := ?vq2_6_5) (by simp only [List.getElem?_toArray, List.getElem?_cons_succ, List.getElem?_cons_zero]; rfl) (by kernel_rfl) (by kernel_rfl) (by kernel_rfl) (by exact fun _ _ _ h => h) (Or.inl ⟨by rfl, ?hq2_6_5⟩) hHeld ?rq2_6_5
        case hq2_6_5 => (intro w hSw; (try dsimp only at hSw); go_simp; (try with_reducible rfl))
        try simp only [put_laws]
        refine wpAnyH_ready (rs := [2]) (by kernel_rfl) (by simp) ?_
        refine AllReadyH.cons (by simp only [List.getElem?_toArray, List.getElem?_cons_succ, List.getElem?_cons_zero]; rfl) (fun K hK => ?_) AllReadyH.nil
        go_simp
        obtain ⟨N, wn, hwn, hNn, hN, hbn, hb7⟩ := alloc1 (z := z) HB2.out.drew hs2; (first | rw [hwn, hNn] | rw [show (w9.alloc (.cells #[.int .i64 z] 3)).drew = wn from hwn, show w9.heap.size = N from hNn]); clear hwn hNn; have hO7 := own_keep (own_drewC H2.out) hbn
        refine hK.out _ _ ?_ (fun hHeld => ?_)
        · (try dsimp only); first | exact hb9.size | exact hb8.size | exact hb7.size | exact hs2
        clear hK K
        try simp only [put_laws]
        refine wpAnyH_ready (rs := [3]) (by kernel_rfl) (by simp) ?_
        refine AllReadyH.cons (by simp only [List.getElem?_toArray, List.getElem?_cons_succ, List.getElem?_cons_zero]; rfl) (fun K hK => ?_) AllReadyH.nil
        rw [if_pos (by rfl)]
        refine wp_pushI (.tmp 29) (.tmp 31) rfl hO7 hb7.size hN rfl rfl (by omega) ?_; intro g' c' w8 hO8 hgr8; have hb8 := hb7.grown hgr8 hb7.size (fun q hq => (hO7.lt q hq).1)
        refine hK.out _ _ ?_ (fun hHeld => ?_)
        · (try dsimp only); first | exact hb9.size | exact hb8.size | exact hb7.size | exact hs2
        clear hK K
        try simp only [put_laws]
        refine wpAnyH_ready (rs := [7]) (by kernel_rfl) (by simp) ?_
        refine AllReadyH.cons (by simp only [List.getElem?_toArray, List.getElem?_cons_succ, List.getElem?_cons_zero]; rfl) (fun K hK => ?_) AllReadyH.nil
        rw [if_pos (by rfl)]
        refine wp_catI (.tmp 32) (.tmp 35) rfl hO8 hb8.size (HI.out.below hb8) rfl hsome rfl (by omega) (by omega) ?_; intro v9 wz hO9 hgr9; have hb9 := hb8.grown hgr9 hb8.size (fun q hq => (hO8.lt q hq).1)
        refine hK.out _ _ ?_ (fun hHeld => ?_)
        · (try dsimp only); first | exact hb9.size | exact hb8.size | exact hb7.size | exact hs2
        clear hK K
        try simp only [put_laws]
        refine wpAnyH_take (i := 8) (v := ?vq2_8_9) (by simp only [List.getElem?_toArray, List.getElem?_cons_succ, List.getElem?_cons_zero]; rfl) (by kernel_rfl) (by kernel_rfl) (by kernel_rfl) (by exact fun _ _ _ h => h) (Or.inl ⟨by rfl, ?hq2_8_9⟩) hHeld ?rq2_8_9
        case hq2_8_9 => (intro w hSw; (try dsimp only at hSw); go_simp; (try with_reducible rfl))
        try simp only [put_laws]
        refine wpAnyH_done (by kernel_rfl) ?_ _
        obtain ⟨Gz, dz, rfl⟩ := own_form hO9 (by omega)
        go_wp2
        all_goals
          go_ret
          exact ⟨Gz, dz, _, rfl, hO9, hb9⟩
set_option maxRecDepth 100000 in
set_option maxHeartbeats 4000000 in
theorem specHallCars_any (wd dp : Int) (A : Option Addr) (n c : Nat) (g : List Int) (w : World) (hn : n ≤ 100) (hnc : n ≤ c) (hg : IntsAt w A n g) :
    Calls Tryz.prog 54 #[.agg #[.int .i64 wd, .int .i64 dp, .slice A n c]] w (fun e w' => ∃ m, m ≤ n ∧ LN w m e w') := by
  have hbs : ∀ w : World, (Instr.buildSlice 23 0 #[]).run Tryz.prog w = .ok (.slice (some ⟨w.heap.size, 0, none⟩) 0 0) (w.alloc (.cells #[] 3)) := fun _ => by kernel_rfl
  have hW := Whole.new w 25 [.int .i64 wd, .int .i64 dp, .slice A n c]
  have hB1 : Below w.heap.size w (w.alloc (.cells #[.int .i64 wd, .int .i64 dp, .slice A n c] 25)) := (Below.refl _ _).alloc (Nat.le_refl _) _
  have HG := Lib.hid hg
  have HL := Lib.hid hg.len
  clear hg
  go_enter Tryz.func54, Tryz.ntmps54
  go_wp2_with fail
  clear hbs
  obtain ⟨Q, HQ⟩ : ∃ Q, Hid (Q = w.heap.size) := ⟨_, rfl⟩
  have hwQ : w.heap.size ≤ Q := Nat.le_of_eq HQ.out.symm
  have hsz : (w.alloc (.cells #[.int .i64 wd, .int .i64 dp, .slice A n c] 25)).heap.size = Q + 1 := by rw [HQ.out]; simp
  have hO1 := own0 (base := w.heap.size) (w1 := w.alloc (.cells #[.int .i64 wd, .int .i64 dp, .slice A n c] 25)) (by omega)
  have hW2 := hW.alloc (.cells #[] 3)
  have hB2 := hB1.alloc hB1.size (.cells #[] 3)
  rw [hsz] at hO1
  rw [← HQ.out] at hW2 ⊢
  clear hW hB1 hsz
  generalize (w.alloc (.cells #[.int .i64 wd, .int .i64 dp, .slice A n c] 25)).alloc (.cells #[] 3) = w3 at *
  refine (specHallValid_any wd dp A n c g _ (by omega) hnc (HG.out.below hB2)).mono ?_; rintro e w4 ⟨rfl, hb4⟩
  have hW4 := hW2.below hb4
  have hB4 := below_next hB2 hb4
  have hO4 := own_keep hO1 hb4
  clear hW2 hB2 hO1 hb4
  obtain ⟨v, hv⟩ : ∃ v, Hid (v = hallB wd dp g) := ⟨_, rfl⟩
  rw [← hv.out]
  cases v
  · go_wp2
    go_ret
    exact ⟨0, Nat.zero_le _, Q + 1, 0, [], rfl, hO4, hB4⟩
  go_wp2
  go_loopw [3, 4] (fun v i wr => ∃ (k m cc G : Nat) (ys : List Int), k ≤ n ∧ i = .int .i64 k ∧ v = .slice (some ⟨G, 0, none⟩) m cc ∧ m ≤ k ∧ wr.ownsRow w.heap.size 3 1 (.slice (some ⟨G, 0, none⟩) m cc) m (ys.map (Value.int .i64)) ∧ Whole wr Q 25 [.int .i64 wd, .int .i64 dp, .slice A n c] ∧ Below w.heap.size w wr) (fun _ i _ => n - (intOf i).toNat)
  case atStart => exact ⟨0, 0, 0, Q + 1, [], Nat.zero_le _, rfl, rfl, Nat.le_refl _, hO4, hW4, hB4⟩
  case round =>
    obtain ⟨k, m, cc, G, ys, hk, rfl, rfl, hmk, hO, hWr, hbw⟩ := hrel
    clear hW4 hB4 hO4
    have q2 := hWr.cell 2
    simp only [List.getElem?_cons_zero, List.getElem?_cons_succ] at q2
    by_cases hlt : k < n
    · obtain ⟨z, b, off, HZ, rfl, hb, hc⟩ := (HG.out.below hbw).get hlt
      by_cases hz : 0 < z
      · have hd : decide (0 < z) = true := by simpa using hz
        have hI := ints_own hO
        go_wp2_with fail
        refine (l1Sorted_any G m cc ys z _ hI.1 (by omega) hI.2).mono ?_; rintro e w5 ⟨G5, d5, ys5, rfl, hO5, hb5⟩
        have hW5 := hWr.below hb5
        have hB5 := below_next hbw hb5
        have hO6 := Joins.ownsRow_le hO5 (base' := w.heap.size) hbw.size
        clear hO hWr hb5 hO5 hI q2
        go_wp2
        go_roundw
        case rel => exact ⟨k + 1, m + 1, d5, G5, ys5, by omega, by go_num, rfl, by omega, hO6, hW5, hB5⟩
        case measure => simp [intOf]; omega
      · have hd : decide (0 < z) = false := by simpa using hz
        clear hz
        go_wp2
        go_roundw
        case rel => exact ⟨k + 1, m, cc, G, ys, by omega, by go_num, rfl, by omega, hO, hWr, hbw⟩
        case measure => simp [intOf]; omega
    · obtain rfl : k = n := by omega
      go_wp2
      go_ret
      exact ⟨m, hmk, G, cc, ys, rfl, hO, hbw⟩
end Go.Proofs.YtdebjcempkgeaaaGreatDoor
