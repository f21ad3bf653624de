/-
  GiveWaste of the program and of the reference.
-/
import Derived.Test.YtmmaeninlhbaaaaDoorGiveV
import Derived.IntWalk
namespace Go.Proofs.YtmmaeninlhbaaaaDoor
open Go.ChangeShapes Go.WideShapes Go.ChangeAt Go.RowKit

set_option maxHeartbeats 1000000 in
theorem wasteOf_any (x : C4) (y : P3) (w : World) (r11 : 1 ≤ x.t) (r12 : x.t ≤ 9) (r13 : 1 ≤ x.r) (r14 : x.r ≤ 9) (r15 : 1 ≤ x.u) (r16 : x.u ≤ 9) (r21 : 0 ≤ y.f) (r22 : y.f ≤ 9) (r23 : 0 ≤ y.t) (r24 : y.t ≤ 9) (r25 : 0 ≤ y.r) (r26 : y.r ≤ 9) :
    Calls Tryd.prog 52 #[.agg #[.int .i64 x.f, .int .i64 x.t, .int .i64 x.r, .int .i64 x.u], .agg #[.int .i64 y.f, .int .i64 y.t, .int .i64 y.r]] w (RV w (.int .i64 (wOf x y))) := by
  go_enter Tryd.func52, Tryd.ntmps52
  go_wp2
  go_ret
  exact ⟨rfl, ((Below.refl _ _).alloc (Nat.le_refl _) _).alloc (by simp) _⟩

set_option maxHeartbeats 4000000 in
theorem giveWaste_any (A : Option Addr) (n c : Nat) (cs : List C4) (P : Option Addr) (m pc : Nat) (ps : List P3) (G : Option Addr) (l gc : Nat) (g : List Int) (w : World)
    (hn : n ≤ c ∧ c ≤ 9223372036854775807) (hx : CarsAt w A n cs) (hm : m ≤ 9223372036854775807) (hp : PlacesAt w P m ps) (hl : l ≤ gc ∧ gc ≤ 9223372036854775807) (hg : IntsAt w G l g) :
    Calls Tryd.prog 27 #[.slice A n c, .slice P m pc, .slice G l gc] w (RV w (.int .i64 (wasteL cs ps g))) := by
  have HL := Lib.hid hx.len
  have HG := Lib.hid hg.len
  have HM := Lib.hid hp.len
  have HN := Lib.hid hn
  have HLC := Lib.hid hl
  obtain ⟨hnc, hcm⟩ := hn
  obtain ⟨hlc, hgm⟩ := hl
  cases hV : giveB cs ps g
  · have HV := Lib.hid hV
    go_enter Tryd.func27, Tryd.ntmps27
    go_wp2_with fail
    refine (giveValid_any A n c cs P m pc ps G l gc g _ HN.out hx hm hp HLC.out hg).mono ?_; rintro e w1 ⟨rfl, hb1⟩
    go_wp2
    go_ret
    exact ⟨ret_int (wasteL_no HV.out).symm, hb1⟩
  have HV := Lib.hid hV
  obtain ⟨hvc, hvp, hvl, hva⟩ := giveB_parts hV
  have HVC := Lib.hid hvc
  have HVP := Lib.hid hvp
  have HVA := Lib.hid hva
  have hl6 : l ≤ 6 := by have := carsB_len hvc; have := HG.out; omega
  have hln : l = n := by have := HG.out; have := HL.out; omega
  have hm6 : m ≤ 6 := by have := placesB_len hvp; have := HM.out; omega
  clear hvc hvp hvl hva
  subst hln
  go_enter Tryd.func27, Tryd.ntmps27
  go_wp2_with fail
  refine (giveValid_any A l c cs P m pc ps G l gc g _ HN.out hx hm hp HLC.out hg).mono ?_; rintro e w1 ⟨rfl, hb1⟩
  go_wp2
  clear hV
  go_loopw [7, 17] (fun s i wr => ∃ (k : Nat) (t : Int), k ≤ l ∧ i = .int .i64 k ∧ s = .int .i64 t ∧ Hid (t = wasteK cs ps g k) ∧ 0 ≤ t ∧ t ≤ 27 * k ∧ Below w.heap.size w wr) (fun _ i _ => l - (intOf i).toNat)
  case atStart => exact ⟨0, 0, Nat.zero_le _, rfl, rfl, rfl, by omega, by omega, hb1⟩
  case round =>
    obtain ⟨k, t, hk, rfl, rfl, HT, ht0, ht1, hbw⟩ := hrel
    clear hb1
    by_cases hlt : k < l
    · have hpw := hp.below hbw
      have hgw := hg.below hbw
      have HNX : Hid (0 ≤ wasteK cs ps g (k + 1) ∧ wasteK cs ps g (k + 1) ≤ 27 * ((k + 1 : Nat) : Int)) := Lib.hid (wasteK_range HV.out (k + 1) (by have := HG.out; omega))
      obtain ⟨x, b, off, HX, rfl, hb, hc0, hc1, hc2, hc3⟩ := (hx.below hbw).get hlt
      obtain ⟨z, gb, goff, HZ, rfl, hgb, hg0⟩ := hgw.get hlt
      have hk0 : (0 : Int) ≤ (k : Int) := by omega
      have hk1 : (k : Int) < (l : Int) := by omega
      by_cases hz0 : 0 ≤ z
      · obtain ⟨p, y, hzp, hpl, hy, hf⟩ := okAt_place (HVA.out k (by have := HG.out; omega)) HZ HX hz0
        subst hzp
        have HY := Lib.hid hy
        have hpm : p < m := by have := HM.out; omega
        have HW := Lib.hid (wAt_some HZ rfl HX HY)
        have r1 := car_range (carsB_get HVC.out HX)
        have r2 := place_range (placesB_get HVP.out HY)
        have r3 := fitP_iff.1 hf
        clear hy hf hpl
        obtain ⟨y', qb, qoff, HY', rfl, hqb, hd0, hd1, hd2⟩ := hpw.get hpm
        obtain rfl : y = y' := by have h1 := HY.out; have h2 := HY'.out; rw [h1] at h2; injection h2
        have hp0 : (0 : Int) ≤ (p : Int) := by omega
        have hp1 : (p : Int) < (m : Int) := by omega
        obtain ⟨-, ⟨r11, r12⟩, ⟨r13, r14⟩, ⟨r15, r16⟩⟩ := r1
        obtain ⟨⟨r21, r22⟩, ⟨r23, r24⟩, ⟨r25, r26⟩⟩ := r2
        obtain ⟨r31, r32, r33⟩ := r3
        have HSUM : Hid (Value.int .i64 (IntKind.i64.wrap (t + wOf x y)) = Value.int .i64 (t + wOf x y)) := Lib.hid (by
          have hnx := HNX.out
          rw [wasteK_next, HW.out, ← HT.out] at hnx
          rw [IntWalk.i64_in _ (by omega)])
        go_wp2
        refine wp_region_held_drew (S := (fun w' => w'.cell? ⟨b, off + k * 4, none⟩ = some (.int .i64 x.f) ∧ w'.cell? ⟨b, off + k * 4 + 1, none⟩ = some (.int .i64 x.t) ∧ w'.cell? ⟨b, off + k * 4 + 2, none⟩ = some (.int .i64 x.r) ∧ w'.cell? ⟨b, off + k * 4 + 3, none⟩ = some (.int .i64 x.u) ∧ w'.cell? ⟨qb, qoff + p * 3, none⟩ = some (.int .i64 y.f) ∧ w'.cell? ⟨qb, qoff + p * 3 + 1, none⟩ = some (.int .i64 y.t) ∧ w'.cell? ⟨qb, qoff + p * 3 + 2, none⟩ = some (.int .i64 y.r) ∧ Below wr.heap.size wr w')) (by kernel_rfl) ?_ (fun hHeld => ?_)
        · (try dsimp only); (first | exact ⟨hc0, hc1, hc2, hc3, hd0, hd1, hd2, (Below.refl _ _).drew⟩ | (obtain ⟨k1, k2, k3, k4, k5, k6, k7, k8⟩ := hHeld; exact ⟨(hb1.cell (Nat.lt_of_lt_of_le hb k8.size)).trans k1, (hb1.cell (Nat.lt_of_lt_of_le hb k8.size)).trans k2, (hb1.cell (Nat.lt_of_lt_of_le hb k8.size)).trans k3, (hb1.cell (Nat.lt_of_lt_of_le hb k8.size)).trans k4, (hb1.cell (Nat.lt_of_lt_of_le hqb k8.size)).trans k5, (hb1.cell (Nat.lt_of_lt_of_le hqb k8.size)).trans k6, (hb1.cell (Nat.lt_of_lt_of_le hqb k8.size)).trans k7, k8.trans (hb1.mono k8.size)⟩))
        refine wpAnyH_take (i := 0) (v := ?vq1_0) (by simp only [List.getElem?_toArray, List.getElem?_cons_zero]; rfl) (by kernel_rfl) (by kernel_rfl) (by kernel_rfl) (by exact fun _ _ _ h => h) (Or.inl ⟨by rfl, ?hq1_0⟩) hHeld ?rq1_0
        case hq1_0 => (intro w hSw; (try dsimp only at hSw); go_simp; (try with_reducible rfl))
        try simp only [put_laws]
        refine wpAnyH_take (i := 1) (v := ?vq1_1) (by simp only [List.getElem?_toArray, List.getElem?_cons_succ, List.getElem?_cons_zero]; rfl) (by kernel_rfl) (by kernel_rfl) (by kernel_rfl) (by exact fun _ _ _ h => h) (Or.inl ⟨by rfl, ?hq1_1⟩) hHeld ?rq1_1
        case hq1_1 => (intro w hSw; (try dsimp only at hSw); go_simp; (try with_reducible rfl))
        try simp only [put_laws]
        refine wpAnyH_take (i := 2) (v := ?vq1_2) (by simp only [List.getElem?_toArray, List.getElem?_cons_succ, List.getElem?_cons_zero]; rfl) (by kernel_rfl) (by kernel_rfl) (by kernel_rfl) (by exact fun _ _ _ h => h) (Or.inl ⟨by rfl, ?hq1_2⟩) hHeld ?rq1_2
        case hq1_2 => (intro w hSw; (try dsimp only at hSw); go_simp; (try with_reducible rfl))
        try simp only [put_laws]
        refine wpAnyH_take (i := 3) (v := ?vq1_3) (by simp only [List.getElem?_toArray, List.getElem?_cons_succ, List.getElem?_cons_zero]; rfl) (by kernel_rfl) (by kernel_rfl) (by kernel_rfl) (by exact fun _ _ _ h => h) (Or.inl ⟨by rfl, ?hq1_3⟩) hHeld ?rq1_3
        case hq1_3 => (intro w hSw; (try dsimp only at hSw); go_simp; (try with_reducible rfl))
        try simp only [put_laws]
        refine wpAnyH_take (i := 4) (v := ?vq1_4) (by simp only [List.getElem?_toArray, List.getElem?_cons_succ, List.getElem?_cons_zero]; rfl) (by kernel_rfl) (by kernel_rfl) (by kernel_rfl) (by exact fun _ _ _ h => h) (Or.inl ⟨by rfl, ?hq1_4⟩) hHeld ?rq1_4
        case hq1_4 => (intro w hSw; (try dsimp only at hSw); go_simp; (try with_reducible rfl))
        try simp only [put_laws]
        refine wpAnyH_take (i := 5) (v := ?vq1_5) (by simp only [List.getElem?_toArray, List.getElem?_cons_succ, List.getElem?_cons_zero]; rfl) (by kernel_rfl) (by kernel_rfl) (by kernel_rfl) (by exact fun _ _ _ h => h) (Or.inl ⟨by rfl, ?hq1_5⟩) hHeld ?rq1_5
        case hq1_5 => (intro w hSw; (try dsimp only at hSw); go_simp; (try with_reducible rfl))
        try simp only [put_laws]
        refine wpAnyH_take (i := 6) (v := ?vq1_6) (by simp only [List.getElem?_toArray, List.getElem?_cons_succ, List.getElem?_cons_zero]; rfl) (by kernel_rfl) (by kernel_rfl) (by kernel_rfl) (by exact fun _ _ _ h => h) (Or.inl ⟨by rfl, ?hq1_6⟩) hHeld ?rq1_6
        case hq1_6 => (intro w hSw; (try dsimp only at hSw); go_simp; (try with_reducible rfl))
        try simp only [put_laws]
        refine wpAnyH_take (i := 7) (v := ?vq1_7) (by simp only [List.getElem?_toArray, List.getElem?_cons_succ, List.getElem?_cons_zero]; rfl) (by kernel_rfl) (by kernel_rfl) (by kernel_rfl) (by exact fun _ _ _ h => h) (Or.inl ⟨by rfl, ?hq1_7⟩) hHeld ?rq1_7
        case hq1_7 => (intro w hSw; (try dsimp only at hSw); go_simp; (try with_reducible rfl))
        try simp only [put_laws]
        refine wpAnyH_take (i := 8) (v := ?vq1_8) (by simp only [List.getElem?_toArray, List.getElem?_cons_succ, List.getElem?_cons_zero]; rfl) (by kernel_rfl) (by kernel_rfl) (by kernel_rfl) (by exact fun _ _ _ h => h) (Or.inl ⟨by rfl, ?hq1_8⟩) hHeld ?rq1_8
        case hq1_8 => (intro w hSw; (try dsimp only at hSw); go_simp; (try with_reducible rfl))
        try simp only [put_laws]
        refine wpAnyH_ready (rs := [9]) (by kernel_rfl) (by simp) ?_
        refine AllReadyH.cons (by simp only [List.getElem?_toArray, List.getElem?_cons_succ, List.getElem?_cons_zero]; rfl) (fun K hK => ?_) AllReadyH.nil
        go_simp
        ((with_reducible refine (wasteOf_any _ _ _ r11 r12 r13 r14 r15 r16 r21 r22 r23 r24 r25 r26).mono ?_); rintro e w1 ⟨rfl, hb1⟩)
        refine hK.out _ _ ?_ (fun hHeld => ?_)
        · (try dsimp only); (first | exact ⟨hc0, hc1, hc2, hc3, hd0, hd1, hd2, (Below.refl _ _).drew⟩ | (obtain ⟨k1, k2, k3, k4, k5, k6, k7, k8⟩ := hHeld; exact ⟨(hb1.cell (Nat.lt_of_lt_of_le hb k8.size)).trans k1, (hb1.cell (Nat.lt_of_lt_of_le hb k8.size)).trans k2, (hb1.cell (Nat.lt_of_lt_of_le hb k8.size)).trans k3, (hb1.cell (Nat.lt_of_lt_of_le hb k8.size)).trans k4, (hb1.cell (Nat.lt_of_lt_of_le hqb k8.size)).trans k5, (hb1.cell (Nat.lt_of_lt_of_le hqb k8.size)).trans k6, (hb1.cell (Nat.lt_of_lt_of_le hqb k8.size)).trans k7, k8.trans (hb1.mono k8.size)⟩))
        clear hK K
        try simp only [put_laws]
        refine wpAnyH_take (i := 10) (v := ?vq1_10) (by simp only [List.getElem?_toArray, List.getElem?_cons_succ, List.getElem?_cons_zero]; rfl) (by kernel_rfl) (by kernel_rfl) (by kernel_rfl) (by exact fun _ _ _ h => h) (Or.inl ⟨by rfl, ?hq1_10⟩) hHeld ?rq1_10
        case hq1_10 => (intro w hSw; (try dsimp only at hSw); go_simp; (try with_reducible rfl))
        try simp only [put_laws]
        refine wpAnyH_take (i := 11) (v := ?vq1_11) (by simp only [List.getElem?_toArray, List.getElem?_cons_succ, List.getElem?_cons_zero]; rfl) (by kernel_rfl) (by kernel_rfl) (by kernel_rfl) (by exact fun _ _ _ h => h) (Or.inl ⟨by rfl, ?hq1_11⟩) hHeld ?rq1_11
        case hq1_11 => (intro w hSw; (try dsimp only at hSw); go_simp; (try with_reducible rfl))
        try simp only [put_laws]
        refine wpAnyH_done (by kernel_rfl) ?_ _
        have hbK := hHeld.2.2.2.2.2.2.2
        go_wp2
        go_roundw
        case rel =>
          have hnx := HNX.out
          rw [wasteK_next, HW.out, ← HT.out] at hnx
          exact ⟨k + 1, t + wOf x y, by omega, by go_num, HSUM.out, Lib.hid (by rw [wasteK_next, HW.out, HT.out]), hnx.1, hnx.2, hbw.trans (hbK.mono hbw.size)⟩
        case measure => simp [intOf]; omega
      · have hzn : ¬ 0 ≤ z := hz0
        have HW := Lib.hid (wAt_none (cs := cs) (ps := ps) HZ (by omega))
        go_wp2
        go_roundw
        case rel => exact ⟨k + 1, t, by omega, by go_num, rfl, Lib.hid (by rw [wasteK_next, HW.out, HT.out]; omega), ht0, by omega, hbw⟩
        case measure => simp [intOf]; omega
    · go_wp2
      go_ret
      refine ⟨ret_int ?_, hbw⟩
      have h1 := HG.out
      rw [HT.out, wasteL_yes HV.out]
      congr 1; omega

set_option maxHeartbeats 4000000 in
theorem specGiveWaste_any (A : Option Addr) (n c : Nat) (cs : List C4) (P : Option Addr) (m pc : Nat) (ps : List P3) (G : Option Addr) (l gc : Nat) (g : List Int) (w : World)
    (hn : n ≤ c ∧ c ≤ 9223372036854775807) (hx : CarsAt w A n cs) (hm : m ≤ 9223372036854775807) (hp : PlacesAt w P m ps) (hl : l ≤ gc ∧ gc ≤ 9223372036854775807) (hg : IntsAt w G l g) :
    Calls Tryd.prog 28 #[.slice A n c, .slice P m pc, .slice G l gc] w (RV w (.int .i64 (wasteL cs ps g))) := by
  have HL := Lib.hid hx.len
  have HG := Lib.hid hg.len
  have HM := Lib.hid hp.len
  have HN := Lib.hid hn
  have HLC := Lib.hid hl
  obtain ⟨hnc, hcm⟩ := hn
  obtain ⟨hlc, hgm⟩ := hl
  cases hV : giveB cs ps g
  · have HV := Lib.hid hV
    go_enter Tryd.func28, Tryd.ntmps28
    go_wp2_with fail
    refine (specGiveValid_any A n c cs P m pc ps G l gc g _ HN.out hx hm hp HLC.out hg).mono ?_; rintro e w1 ⟨rfl, hb1⟩
    go_wp2
    go_ret
    exact ⟨ret_int (wasteL_no HV.out).symm, hb1⟩
  have HV := Lib.hid hV
  obtain ⟨hvc, hvp, hvl, hva⟩ := giveB_parts hV
  have HVC := Lib.hid hvc
  have HVP := Lib.hid hvp
  have HVA := Lib.hid hva
  have hl6 : l ≤ 6 := by have := carsB_len hvc; have := HG.out; omega
  have hln : l = n := by have := HG.out; have := HL.out; omega
  have hm6 : m ≤ 6 := by have := placesB_len hvp; have := HM.out; omega
  clear hvc hvp hvl hva
  subst hln
  go_enter Tryd.func28, Tryd.ntmps28
  go_wp2_with fail
  refine (specGiveValid_any A l c cs P m pc ps G l gc g _ HN.out hx hm hp HLC.out hg).mono ?_; rintro e w1 ⟨rfl, hb1⟩
  go_wp2
  clear hV
  go_loopw [7, 8] (fun s i wr => ∃ (k : Nat) (t : Int), k ≤ l ∧ i = .int .i64 k ∧ s = .int .i64 t ∧ Hid (t = wasteK cs ps g k) ∧ 0 ≤ t ∧ t ≤ 27 * k ∧ Below w.heap.size w wr) (fun _ i _ => l - (intOf i).toNat)
  case atStart => exact ⟨0, 0, Nat.zero_le _, rfl, rfl, rfl, by omega, by omega, hb1⟩
  case round =>
    obtain ⟨k, t, hk, rfl, rfl, HT, ht0, ht1, hbw⟩ := hrel
    clear hb1
    by_cases hlt : k < l
    · have hpw := hp.below hbw
      have hgw := hg.below hbw
      have HNX : Hid (0 ≤ wasteK cs ps g (k + 1) ∧ wasteK cs ps g (k + 1) ≤ 27 * ((k + 1 : Nat) : Int)) := Lib.hid (wasteK_range HV.out (k + 1) (by have := HG.out; omega))
      obtain ⟨x, b, off, HX, rfl, hb, hc0, hc1, hc2, hc3⟩ := (hx.below hbw).get hlt
      obtain ⟨z, gb, goff, HZ, rfl, hgb, hg0⟩ := hgw.get hlt
      have hk0 : (0 : Int) ≤ (k : Int) := by omega
      have hk1 : (k : Int) < (l : Int) := by omega
      by_cases hz0 : 0 ≤ z
      · obtain ⟨p, y, hzp, hpl, hy, hf⟩ := okAt_place (HVA.out k (by have := HG.out; omega)) HZ HX hz0
        subst hzp
        have HY := Lib.hid hy
        have hpm : p < m := by have := HM.out; omega
        have HW := Lib.hid (wAt_some HZ rfl HX HY)
        have r1 := car_range (carsB_get HVC.out HX)
        have r2 := place_range (placesB_get HVP.out HY)
        have r3 := fitP_iff.1 hf
        clear hy hf hpl
        obtain ⟨y', qb, qoff, HY', rfl, hqb, hd0, hd1, hd2⟩ := hpw.get hpm
        obtain rfl : y = y' := by have h1 := HY.out; have h2 := HY'.out; rw [h1] at h2; injection h2
        have hp0 : (0 : Int) ≤ (p : Int) := by omega
        have hp1 : (p : Int) < (m : Int) := by omega
        obtain ⟨-, ⟨r11, r12⟩, ⟨r13, r14⟩, ⟨r15, r16⟩⟩ := r1
        obtain ⟨⟨r21, r22⟩, ⟨r23, r24⟩, ⟨r25, r26⟩⟩ := r2
        obtain ⟨r31, r32, r33⟩ := r3
        go_wp2
        have hMw : Whole (wr.alloc (.cells #[.int .i64 y.f, .int .i64 y.t, .int .i64 y.r] 48)) wr.heap.size 48 [.int .i64 y.f, .int .i64 y.t, .int .i64 y.r] := Whole.new wr _ _
        have hbb : Below wr.heap.size wr (wr.alloc (.cells #[.int .i64 y.f, .int .i64 y.t, .int .i64 y.r] 48)) := (Below.refl _ _).alloc (Nat.le_refl _) _
        generalize wr.alloc (.cells #[.int .i64 y.f, .int .i64 y.t, .int .i64 y.r] 48) = wb at hMw hbb ⊢
        have hbwb := below_next hbw hbb
        have hm0 := hMw.cell 0
        have hm1 := hMw.cell 1
        have hm2 := hMw.cell 2
        simp only [List.getElem?_cons_zero, List.getElem?_cons_succ] at hm0 hm1 hm2
        have he0 := (hbb.cell (p := ⟨b, off + k * 4, none⟩) hb).trans hc0
        have he1 := (hbb.cell (p := ⟨b, off + k * 4 + 1, none⟩) hb).trans hc1
        have he2 := (hbb.cell (p := ⟨b, off + k * 4 + 2, none⟩) hb).trans hc2
        have he3 := (hbb.cell (p := ⟨b, off + k * 4 + 3, none⟩) hb).trans hc3
        clear hc0 hc1 hc2 hc3 hd0 hd1 hd2
        obtain ⟨M, HM'⟩ : ∃ M, Hid (M = wr.heap.size) := ⟨_, rfl⟩
        rw [← HM'.out] at hm0 hm1 hm2 ⊢
        refine wp_region_held_drew (S := (fun w' => w'.cell? ⟨b, off + k * 4, none⟩ = some (.int .i64 x.f) ∧ w'.cell? ⟨b, off + k * 4 + 1, none⟩ = some (.int .i64 x.t) ∧ w'.cell? ⟨b, off + k * 4 + 2, none⟩ = some (.int .i64 x.r) ∧ w'.cell? ⟨b, off + k * 4 + 3, none⟩ = some (.int .i64 x.u) ∧ w'.cell? ⟨M, 0, none⟩ = some (.int .i64 y.f) ∧ w'.cell? ⟨M, 1, none⟩ = some (.int .i64 y.t) ∧ w'.cell? ⟨M, 2, none⟩ = some (.int .i64 y.r) ∧ Below wb.heap.size wb w')) (by kernel_rfl) ?_ (fun hHeld => ?_)
        · (try dsimp only); (first | exact ⟨he0, he1, he2, he3, hm0, hm1, hm2, (Below.refl _ _).drew⟩)
        refine wpAnyH_take (i := 0) (v := ?vq2_0) (by simp only [List.getElem?_toArray, List.getElem?_cons_zero]; rfl) (by kernel_rfl) (by kernel_rfl) (by kernel_rfl) (by exact fun _ _ _ h => h) (Or.inl ⟨by rfl, ?hq2_0⟩) hHeld ?rq2_0
        case hq2_0 => (intro w hSw; (try dsimp only at hSw); go_simp; (try with_reducible rfl))
        try simp only [put_laws]
        refine wpAnyH_take (i := 1) (v := ?vq2_1) (by simp only [List.getElem?_toArray, List.getElem?_cons_succ, List.getElem?_cons_zero]; rfl) (by kernel_rfl) (by kernel_rfl) (by kernel_rfl) (by exact fun _ _ _ h => h) (Or.inl ⟨by rfl, ?hq2_1⟩) hHeld ?rq2_1
        case hq2_1 => (intro w hSw; (try dsimp only at hSw); go_simp; (try with_reducible rfl))
        try simp only [put_laws]
        refine wpAnyH_take (i := 2) (v := ?vq2_2) (by simp only [List.getElem?_toArray, List.getElem?_cons_succ, List.getElem?_cons_zero]; rfl) (by kernel_rfl) (by kernel_rfl) (by kernel_rfl) (by exact fun _ _ _ h => h) (Or.inl ⟨by rfl, ?hq2_2⟩) hHeld ?rq2_2
        case hq2_2 => (intro w hSw; (try dsimp only at hSw); go_simp; (try with_reducible rfl))
        try simp only [put_laws]
        refine wpAnyH_take (i := 3) (v := ?vq2_3) (by simp only [List.getElem?_toArray, List.getElem?_cons_succ, List.getElem?_cons_zero]; rfl) (by kernel_rfl) (by kernel_rfl) (by kernel_rfl) (by exact fun _ _ _ h => h) (Or.inl ⟨by rfl, ?hq2_3⟩) hHeld ?rq2_3
        case hq2_3 => (intro w hSw; (try dsimp only at hSw); go_simp; (try with_reducible rfl))
        try simp only [put_laws]
        refine wpAnyH_take (i := 4) (v := ?vq2_4) (by simp only [List.getElem?_toArray, List.getElem?_cons_succ, List.getElem?_cons_zero]; rfl) (by kernel_rfl) (by kernel_rfl) (by kernel_rfl) (by exact fun _ _ _ h => h) (Or.inl ⟨by rfl, ?hq2_4⟩) hHeld ?rq2_4
        case hq2_4 => (intro w hSw; (try dsimp only at hSw); go_simp; (try with_reducible rfl))
        try simp only [put_laws]
        refine wpAnyH_take (i := 5) (v := ?vq2_5) (by simp only [List.getElem?_toArray, List.getElem?_cons_succ, List.getElem?_cons_zero]; rfl) (by kernel_rfl) (by kernel_rfl) (by kernel_rfl) (by exact fun _ _ _ h => h) (Or.inl ⟨by rfl, ?hq2_5⟩) hHeld ?rq2_5
        case hq2_5 => (intro w hSw; (try dsimp only at hSw); go_simp; (try with_reducible rfl))
        try simp only [put_laws]
        refine wpAnyH_take (i := 6) (v := ?vq2_6) (by simp only [List.getElem?_toArray, List.getElem?_cons_succ, List.getElem?_cons_zero]; rfl) (by kernel_rfl) (by kernel_rfl) (by kernel_rfl) (by exact fun _ _ _ h => h) (Or.inl ⟨by rfl, ?hq2_6⟩) hHeld ?rq2_6
        case hq2_6 => (intro w hSw; (try dsimp only at hSw); go_simp; (try with_reducible rfl))
        try simp only [put_laws]
        refine wpAnyH_take (i := 7) (v := ?vq2_7) (by simp only [List.getElem?_toArray, List.getElem?_cons_succ, List.getElem?_cons_zero]; rfl) (by kernel_rfl) (by kernel_rfl) (by kernel_rfl) (by exact fun _ _ _ h => h) (Or.inl ⟨by rfl, ?hq2_7⟩) hHeld ?rq2_7
        case hq2_7 => (intro w hSw; (try dsimp only at hSw); go_simp; (try with_reducible rfl))
        try simp only [put_laws]
        refine wpAnyH_take (i := 8) (v := ?vq2_8) (by simp only [List.getElem?_toArray, List.getElem?_cons_succ, List.getElem?_cons_zero]; rfl) (by kernel_rfl) (by kernel_rfl) (by kernel_rfl) (by exact fun _ _ _ h => h) (Or.inl ⟨by rfl, ?hq2_8⟩) hHeld ?rq2_8
        case hq2_8 => (intro w hSw; (try dsimp only at hSw); go_simp; (try with_reducible rfl))
        try simp only [put_laws]
        refine wpAnyH_take (i := 9) (v := ?vq2_9) (by simp only [List.getElem?_toArray, List.getElem?_cons_succ, List.getElem?_cons_zero]; rfl) (by kernel_rfl) (by kernel_rfl) (by kernel_rfl) (by exact fun _ _ _ h => h) (Or.inl ⟨by rfl, ?hq2_9⟩) hHeld ?rq2_9
        case hq2_9 => (intro w hSw; (try dsimp only at hSw); go_simp; (try with_reducible rfl))
        try simp only [put_laws]
        refine wpAnyH_take (i := 10) (v := ?vq2_10) (by simp only [List.getElem?_toArray, List.getElem?_cons_succ, List.getElem?_cons_zero]; rfl) (by kernel_rfl) (by kernel_rfl) (by kernel_rfl) (by exact fun _ _ _ h => h) (Or.inl ⟨by rfl, ?hq2_10⟩) hHeld ?rq2_10
        case hq2_10 => (intro w hSw; (try dsimp only at hSw); go_simp; (try with_reducible rfl))
        try simp only [put_laws]
        refine wpAnyH_take (i := 11) (v := ?vq2_11) (by simp only [List.getElem?_toArray, List.getElem?_cons_succ, List.getElem?_cons_zero]; rfl) (by kernel_rfl) (by kernel_rfl) (by kernel_rfl) (by exact fun _ _ _ h => h) (Or.inl ⟨by rfl, ?hq2_11⟩) hHeld ?rq2_11
        case hq2_11 => (intro w hSw; (try dsimp only at hSw); go_simp; (try with_reducible rfl))
        try simp only [put_laws]
        refine wpAnyH_take (i := 12) (v := ?vq2_12) (by simp only [List.getElem?_toArray, List.getElem?_cons_succ, List.getElem?_cons_zero]; rfl) (by kernel_rfl) (by kernel_rfl) (by kernel_rfl) (by exact fun _ _ _ h => h) (Or.inl ⟨by rfl, ?hq2_12⟩) hHeld ?rq2_12
        case hq2_12 => (intro w hSw; (try dsimp only at hSw); go_simp; (try with_reducible rfl))
        try simp only [put_laws]
        refine wpAnyH_take (i := 13) (v := ?vq2_13) (by simp only [List.getElem?_toArray, List.getElem?_cons_succ, List.getElem?_cons_zero]; rfl) (by kernel_rfl) (by kernel_rfl) (by kernel_rfl) (by exact fun _ _ _ h => h) (Or.inl ⟨by rfl, ?hq2_13⟩) hHeld ?rq2_13
        case hq2_13 => (intro w hSw; (try dsimp only at hSw); go_simp; (try with_reducible rfl))
        try simp only [put_laws]
        refine wpAnyH_take (i := 14) (v := ?vq2_14) (by simp only [List.getElem?_toArray, List.getElem?_cons_succ, List.getElem?_cons_zero]; rfl) (by kernel_rfl) (by kernel_rfl) (by kernel_rfl) (by exact fun _ _ _ h => h) (Or.inl ⟨by rfl, ?hq2_14⟩) hHeld ?rq2_14
        case hq2_14 => (intro w hSw; (try dsimp only at hSw); go_simp; (try with_reducible rfl))
        try simp only [put_laws]
        refine wpAnyH_take (i := 15) (v := ?vq2_15) (by simp only [List.getElem?_toArray, List.getElem?_cons_succ, List.getElem?_cons_zero]; rfl) (by kernel_rfl) (by kernel_rfl) (by kernel_rfl) (by exact fun _ _ _ h => h) (Or.inl ⟨by rfl, ?hq2_15⟩) hHeld ?rq2_15
        case hq2_15 => (intro w hSw; (try dsimp only at hSw); go_simp; (try with_reducible rfl))
        try simp only [put_laws]
        refine wpAnyH_take (i := 16) (v := ?vq2_16) (by simp only [List.getElem?_toArray, List.getElem?_cons_succ, List.getElem?_cons_zero]; rfl) (by kernel_rfl) (by kernel_rfl) (by kernel_rfl) (by exact fun _ _ _ h => h) (Or.inl ⟨by rfl, ?hq2_16⟩) hHeld ?rq2_16
        case hq2_16 => (intro w hSw; (try dsimp only at hSw); go_simp; (try with_reducible rfl))
        try simp only [put_laws]
        refine wpAnyH_take (i := 17) (v := ?vq2_17) (by simp only [List.getElem?_toArray, List.getElem?_cons_succ, List.getElem?_cons_zero]; rfl) (by kernel_rfl) (by kernel_rfl) (by kernel_rfl) (by exact fun _ _ _ h => h) (Or.inl ⟨by rfl, ?hq2_17⟩) hHeld ?rq2_17
        case hq2_17 => (intro w hSw; (try dsimp only at hSw); go_simp; (try with_reducible rfl))
        try simp only [put_laws]
        refine wpAnyH_take (i := 18) (v := ?vq2_18) (by simp only [List.getElem?_toArray, List.getElem?_cons_succ, List.getElem?_cons_zero]; rfl) (by kernel_rfl) (by kernel_rfl) (by kernel_rfl) (by exact fun _ _ _ h => h) (Or.inl ⟨by rfl, ?hq2_18⟩) hHeld ?rq2_18
        case hq2_18 => (intro w hSw; (try dsimp only at hSw); go_simp; (try with_reducible rfl))
        try simp only [put_laws]
        refine wpAnyH_take (i := 19) (v := ?vq2_19) (by simp only [List.getElem?_toArray, List.getElem?_cons_succ, List.getElem?_cons_zero]; rfl) (by kernel_rfl) (by kernel_rfl) (by kernel_rfl) (by exact fun _ _ _ h => h) (Or.inl ⟨by rfl, ?hq2_19⟩) hHeld ?rq2_19
        case hq2_19 => (intro w hSw; (try dsimp only at hSw); go_simp; (try with_reducible rfl))
        try simp only [put_laws]
        refine wpAnyH_take (i := 20) (v := ?vq2_20) (by simp only [List.getElem?_toArray, List.getElem?_cons_succ, List.getElem?_cons_zero]; rfl) (by kernel_rfl) (by kernel_rfl) (by kernel_rfl) (by exact fun _ _ _ h => h) (Or.inl ⟨by rfl, ?hq2_20⟩) hHeld ?rq2_20
        case hq2_20 => (intro w hSw; (try dsimp only at hSw); go_simp; (try with_reducible rfl))
        try simp only [put_laws]
        refine wpAnyH_take (i := 21) (v := ?vq2_21) (by simp only [List.getElem?_toArray, List.getElem?_cons_succ, List.getElem?_cons_zero]; rfl) (by kernel_rfl) (by kernel_rfl) (by kernel_rfl) (by exact fun _ _ _ h => h) (Or.inl ⟨by rfl, ?hq2_21⟩) hHeld ?rq2_21
        case hq2_21 => (intro w hSw; (try dsimp only at hSw); go_simp; (try with_reducible rfl))
        try simp only [put_laws]
        refine wpAnyH_take (i := 22) (v := ?vq2_22) (by simp only [List.getElem?_toArray, List.getElem?_cons_succ, List.getElem?_cons_zero]; rfl) (by kernel_rfl) (by kernel_rfl) (by kernel_rfl) (by exact fun _ _ _ h => h) (Or.inl ⟨by rfl, ?hq2_22⟩) hHeld ?rq2_22
        case hq2_22 => (intro w hSw; (try dsimp only at hSw); go_simp; (try with_reducible rfl))
        try simp only [put_laws]
        refine wpAnyH_take (i := 23) (v := ?vq2_23) (by simp only [List.getElem?_toArray, List.getElem?_cons_succ, List.getElem?_cons_zero]; rfl) (by kernel_rfl) (by kernel_rfl) (by kernel_rfl) (by exact fun _ _ _ h => h) (Or.inl ⟨by rfl, ?hq2_23⟩) hHeld ?rq2_23
        case hq2_23 => (intro w hSw; (try dsimp only at hSw); go_simp; (try with_reducible rfl))
        try simp only [put_laws]
        refine wpAnyH_take (i := 24) (v := ?vq2_24) (by simp only [List.getElem?_toArray, List.getElem?_cons_succ, List.getElem?_cons_zero]; rfl) (by kernel_rfl) (by kernel_rfl) (by kernel_rfl) (by exact fun _ _ _ h => h) (Or.inl ⟨by rfl, ?hq2_24⟩) hHeld ?rq2_24
        case hq2_24 => (intro w hSw; (try dsimp only at hSw); go_simp; (try with_reducible rfl))
        try simp only [put_laws]
        refine wpAnyH_take (i := 25) (v := ?vq2_25) (by simp only [List.getElem?_toArray, List.getElem?_cons_succ, List.getElem?_cons_zero]; rfl) (by kernel_rfl) (by kernel_rfl) (by kernel_rfl) (by exact fun _ _ _ h => h) (Or.inl ⟨by rfl, ?hq2_25⟩) hHeld ?rq2_25
        case hq2_25 => (intro w hSw; (try dsimp only at hSw); go_simp; (try with_reducible rfl))
        try simp only [put_laws]
        refine wpAnyH_take (i := 26) (v := ?vq2_26) (by simp only [List.getElem?_toArray, List.getElem?_cons_succ, List.getElem?_cons_zero]; rfl) (by kernel_rfl) (by kernel_rfl) (by kernel_rfl) (by exact fun _ _ _ h => h) (Or.inl ⟨by rfl, ?hq2_26⟩) hHeld ?rq2_26
        case hq2_26 => (intro w hSw; (try dsimp only at hSw); go_simp; (try with_reducible rfl))
        try simp only [put_laws]
        refine wpAnyH_take (i := 27) (v := ?vq2_27) (by simp only [List.getElem?_toArray, List.getElem?_cons_succ, List.getElem?_cons_zero]; rfl) (by kernel_rfl) (by kernel_rfl) (by kernel_rfl) (by exact fun _ _ _ h => h) (Or.inl ⟨by rfl, ?hq2_27⟩) hHeld ?rq2_27
        case hq2_27 => (intro w hSw; (try dsimp only at hSw); go_simp; (try with_reducible rfl))
        try simp only [put_laws]
        refine wpAnyH_take (i := 28) (v := ?vq2_28) (by simp only [List.getElem?_toArray, List.getElem?_cons_succ, List.getElem?_cons_zero]; rfl) (by kernel_rfl) (by kernel_rfl) (by kernel_rfl) (by exact fun _ _ _ h => h) (Or.inl ⟨by rfl, ?hq2_28⟩) hHeld ?rq2_28
        case hq2_28 => (intro w hSw; (try dsimp only at hSw); go_simp; (try with_reducible rfl))
        try simp only [put_laws]
        refine wpAnyH_done (by kernel_rfl) ?_ _
        have hbK := hHeld.2.2.2.2.2.2.2
        go_wp2
        go_roundw
        case rel =>
          have hnx := HNX.out
          rw [wasteK_next, HW.out, ← HT.out] at hnx
          refine ⟨k + 1, t + wOf x y, by omega, by go_num, ?_, Lib.hid (by rw [wasteK_next, HW.out, HT.out]), hnx.1, hnx.2, hbwb.trans (hbK.mono hbwb.size)⟩
          rw [IntWalk.i64_in (t + y.f) (by omega), IntWalk.i64_in (t + y.f - x.t) (by omega), IntWalk.i64_in (t + y.f - x.t + y.t) (by omega), IntWalk.i64_in (t + y.f - x.t + y.t - x.r) (by omega), IntWalk.i64_in (t + y.f - x.t + y.t - x.r + y.r) (by omega), IntWalk.i64_in (t + y.f - x.t + y.t - x.r + y.r - x.u) (by omega)]
          have hs : t + y.f - x.t + y.t - x.r + y.r - x.u = t + wOf x y := by unfold wOf; omega
          rw [hs]
        case measure => simp [intOf]; omega
      · have hzn : ¬ 0 ≤ z := hz0
        have HW := Lib.hid (wAt_none (cs := cs) (ps := ps) HZ (by omega))
        go_wp2
        go_roundw
        case rel => exact ⟨k + 1, t, by omega, by go_num, rfl, Lib.hid (by rw [wasteK_next, HW.out, HT.out]; omega), ht0, by omega, hbw⟩
        case measure => simp [intOf]; omega
    · go_wp2
      go_ret
      refine ⟨ret_int ?_, hbw⟩
      have h1 := HG.out
      rw [HT.out, wasteL_yes HV.out]
      congr 1; omega

end Go.Proofs.YtmmaeninlhbaaaaDoor
