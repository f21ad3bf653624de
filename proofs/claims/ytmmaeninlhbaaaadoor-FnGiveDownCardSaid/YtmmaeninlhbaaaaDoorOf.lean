/-
  PlacesOf of the program and of the reference.
-/
import Derived.Test.YtmmaeninlhbaaaaDoorOfP
import Derived.Test.YtmmaeninlhbaaaaDoorGiveV
namespace Go.Proofs.YtmmaeninlhbaaaaDoor
open Go.ChangeShapes Go.WideShapes Go.ChangeAt Go.RowKit

theorem ownR_nil {w w1 : World} {rs : List Int} (hb : Below w.heap.size w w1) (h : rs = []) : OwnR w rs (.returned (.slice none 0 0)) w1 := by
  subst h; exact ownR_mk rfl (own_ints (own_nil _ _)) hb
theorem ownR_row {w w0 w1 : World} {v : Value} {m : Nat} {rs : List Int} (ho : w1.ownsRow w0.heap.size 3 1 v m (rs.map (Value.int .i64))) (hb0 : Below w.heap.size w w0) (hb : Below w0.heap.size w0 w1) : OwnR w rs (.returned v) w1 := by
  have h := own_ints ho
  obtain ⟨A', c', rfl, _, _⟩ := h.form
  exact ownR_mk rfl (h.base hb0.size) (hb0.trans (hb.mono hb0.size))

set_option maxHeartbeats 4000000 in
theorem placesOf_any (A : Option Addr) (n c : Nat) (cs : List C4) (P : Option Addr) (m pc : Nat) (ps : List P3) (G : Option Addr) (l gc : Nat) (g : List Int) (w : World)
    (hn : n ≤ c ∧ c ≤ 9223372036854775807) (hx : CarsAt w A n cs) (hm : m ≤ 9223372036854775807) (hp : PlacesAt w P m ps) (hl : l ≤ 9223372036854775807) (hg : IntsAt w G l g) :
    Calls Tryd.prog 32 #[.slice A n c, .slice P m pc, .slice G l gc] w (OwnR w (ofL cs ps g)) := by
  have HL := Lib.hid hx.len
  have HG := Lib.hid hg.len
  have HM := Lib.hid hp.len
  have HN := Lib.hid hn
  obtain ⟨hnc, hcm⟩ := hn
  cases hC : carsB cs
  · have HC := Lib.hid hC
    go_enter Tryd.func32, Tryd.ntmps32
    go_wp2_with fail
    refine (carsValid_any A n c cs _ HN.out hx).mono ?_; rintro e w1 ⟨rfl, hb1⟩
    go_wp2
    go_ret
    exact ownR_nil hb1 (ofL_no (ofB_cars HC.out))
  have HC := Lib.hid hC
  cases hP : placesB ps
  · have HP := Lib.hid hP
    go_enter Tryd.func32, Tryd.ntmps32
    go_wp2_with fail
    refine (carsValid_any A n c cs _ HN.out hx).mono ?_; rintro e w1 ⟨rfl, hb1⟩
    go_wp2_with fail
    refine (placesValid_any P m pc ps _ hm (hp.below hb1)).mono ?_; rintro e w2 ⟨rfl, hb2⟩
    go_wp2
    go_ret
    exact ownR_nil (below_next hb1 hb2) (ofL_no (ofB_places HP.out))
  have HP := Lib.hid hP
  have hm6 : m ≤ 6 := by have := placesB_len HP.out; have := HM.out; omega
  have hn6 : n ≤ 6 := by have := carsB_len HC.out; have := HL.out; omega
  go_enter Tryd.func32, Tryd.ntmps32
  go_wp2_with fail
  refine (carsValid_any A n c cs _ HN.out hx).mono ?_; rintro e w1 ⟨rfl, hb1⟩
  go_wp2_with fail
  refine (placesValid_any P m pc ps _ hm (hp.below hb1)).mono ?_; rintro e w2 ⟨rfl, hb2⟩
  go_wp2
  clear hC hP
  have hb0 := below_next hb1 hb2
  clear hb1 hb2
  go_loop [24] (fun i => ∃ k : Nat, k ≤ l ∧ i = .int .i64 k ∧ (g.take k).all (idxB n) = true) (fun i => l - (intOf i).toNat)
  case atStart => exact ⟨0, Nat.zero_le _, rfl, rfl⟩
  case round =>
    obtain ⟨k, hk, rfl, hall⟩ := hrel
    have HA := Lib.hid hall
    clear hall
    by_cases hlt : k < l
    · obtain ⟨z, gb, goff, HZ, rfl, hgb, hg0⟩ := (hg.below hb0).get hlt
      have hk0 : (0 : Int) ≤ (k : Int) := by omega
      have hk1 : (k : Int) < (l : Int) := by omega
      by_cases hz0 : z < 0
      · have hzd : decide (z < 0) = true := by simpa using hz0
        go_wp2
        go_ret
        exact ownR_nil hb0 (ofL_no (ofB_bad HL.out HZ (by unfold idxB; simp; omega)))
      · have hzd : decide (z < 0) = false := by simpa using hz0
        by_cases hzn : (n : Int) ≤ z
        · go_wp2
          go_ret
          exact ownR_nil hb0 (ofL_no (ofB_bad HL.out HZ (by unfold idxB; simp; omega)))
        · go_wp2
          go_round
          case rel => exact ⟨k + 1, by omega, by go_num, all_next HZ HA.out (by unfold idxB; simp; omega)⟩
          case measure => simp [intOf]; omega
    · have HB : Hid (ofB cs ps g = true) := Lib.hid (ofB_all HC.out HP.out HL.out HG.out (by omega) HA.out)
      clear HA
      go_wp2
      go_loopw [9, 39] (fun v i wr => ∃ k r : Nat, k ≤ m ∧ r ≤ k ∧ i = .int .i64 k ∧ wr.ownsRow w2.heap.size 3 1 v r ((selK (ofAt cs ps g) k).map (Value.int .i64)) ∧ Below w2.heap.size w2 wr) (fun _ i _ => m - (intOf i).toNat)
      case atStart => exact ⟨0, 0, Nat.zero_le _, Nat.le_refl _, rfl, own_nil _ _, Below.refl _ _⟩
      case round =>
        obtain ⟨k, r, hk, hrk, rfl, hown, hbw⟩ := hrel
        obtain ⟨wo, rfl⟩ : ∃ wo : World, wo = wr := ⟨_, rfl⟩
        by_cases hlt : k < m
        · obtain ⟨y, qb, qoff, HY, rfl, hqb, hd0, hd1, hd2⟩ := (hp.below (below_next hb0 hbw)).get hlt
          have hk0 : (0 : Int) ≤ (k : Int) := by omega
          have hk1 : (k : Int) < (m : Int) := by omega
          go_wp2
          have hMw : Whole (wo.alloc (.cells #[.int .i64 y.f, .int .i64 y.t, .int .i64 y.r] 48)) wo.heap.size 48 [.int .i64 y.f, .int .i64 y.t, .int .i64 y.r] := Whole.new wo _ _
          have hbb : Below wo.heap.size wo (wo.alloc (.cells #[.int .i64 y.f, .int .i64 y.t, .int .i64 y.r] 48)) := (Below.refl _ _).alloc (Nat.le_refl _) _
          generalize wo.alloc (.cells #[.int .i64 y.f, .int .i64 y.t, .int .i64 y.r] 48) = wb at hMw hbb ⊢
          obtain ⟨M, HM'⟩ : ∃ M, Hid (M = wo.heap.size) := ⟨_, rfl⟩
          rw [← HM'.out] at hMw ⊢
          have hownb := own_below hown hbb
          have hbwb := below_next hbw hbb
          clear hd0 hd1 hd2 hown hbw hbb
          go_loopw [9, 46] (fun v i wi => ∃ j : Nat, j ≤ l ∧ v = u9 ∧ i = .int .i64 j ∧ (g.take j).any (fitZ cs ps k) = false ∧ Below wb.heap.size wb wi) (fun _ i _ => l - (intOf i).toNat)
          case atStart => exact ⟨0, Nat.zero_le _, rfl, rfl, rfl, Below.refl _ _⟩
          case round =>
            obtain ⟨j, hj, rfl, rfl, hany, hbi⟩ := hrel
            obtain ⟨wi, rfl⟩ : ∃ wi : World, wi = wr := ⟨_, rfl⟩
            have HA := Lib.hid hany
            clear hany
            have hbwi := below_next hbwb hbi
            have hb0i := below_next hb0 hbwi
            have howni := own_below hownb hbi
            by_cases hjl : j < l
            · obtain ⟨z, gb, goff, HZ, rfl, hgb, hg0⟩ := (hg.below hb0i).get hjl
              obtain ⟨q, rfl, hqn⟩ := ofB_get HB.out HL.out HZ
              obtain ⟨x, b, off, HX, rfl, hb, hc0, hc1, hc2, hc3⟩ := (hx.below hb0i).get hqn
              have hj0 : (0 : Int) ≤ (j : Int) := by omega
              have hj1 : (j : Int) < (l : Int) := by omega
              have hq0 : (0 : Int) ≤ (q : Int) := by omega
              have hq1 : (q : Int) < (n : Int) := by omega
              have HF := Lib.hid (fitZ_get HX HY)
              have hMi := hMw.below hbi
              have hMr := hMi.lt
              have hm0 := hMi.cell 0
              have hm1 := hMi.cell 1
              have hm2 := hMi.cell 2
              simp only [List.getElem?_cons_zero, List.getElem?_cons_succ] at hm0 hm1 hm2
              clear hownb hbwi
              cases hf : fitP x y
              · have hfit := Lib.hid hf
                clear hf
                go_wp2
                refine wp_region_held_drew (S := (fun w' => w'.cell? ⟨b, off + q * 4, none⟩ = some (.int .i64 x.f) ∧ w'.cell? ⟨b, off + q * 4 + 1, none⟩ = some (.int .i64 x.t) ∧ w'.cell? ⟨b, off + q * 4 + 2, none⟩ = some (.int .i64 x.r) ∧ w'.cell? ⟨b, off + q * 4 + 3, none⟩ = some (.int .i64 x.u) ∧ w'.cell? ⟨M, 0, none⟩ = some (.int .i64 y.f) ∧ w'.cell? ⟨M, 1, none⟩ = some (.int .i64 y.t) ∧ w'.cell? ⟨M, 2, none⟩ = some (.int .i64 y.r) ∧ Below wi.heap.size wi w')) (by kernel_rfl) ?_ (fun hHeld => ?_)
                · (try dsimp only); (first | exact ⟨hc0, hc1, hc2, hc3, hm0, hm1, hm2, (Below.refl _ _).drew⟩ | (obtain ⟨k1, k2, k3, k4, k5, k6, k7, k8⟩ := hHeld; exact ⟨(hb1.cell (Nat.lt_of_lt_of_le hb k8.size)).trans k1, (hb1.cell (Nat.lt_of_lt_of_le hb k8.size)).trans k2, (hb1.cell (Nat.lt_of_lt_of_le hb k8.size)).trans k3, (hb1.cell (Nat.lt_of_lt_of_le hb k8.size)).trans k4, (hb1.cell (Nat.lt_of_lt_of_le hMr k8.size)).trans k5, (hb1.cell (Nat.lt_of_lt_of_le hMr k8.size)).trans k6, (hb1.cell (Nat.lt_of_lt_of_le hMr k8.size)).trans k7, k8.trans (hb1.mono k8.size)⟩))
                refine wpAnyH_take (i := 0) (v := ?vq1_0) (by simp only [List.getElem?_toArray, List.getElem?_cons_zero]; rfl) (by kernel_rfl) (by kernel_rfl) (by kernel_rfl) (by exact fun _ _ _ h => h) (Or.inl ⟨by rfl, ?hq1_0⟩) hHeld ?rq1_0
                case hq1_0 => (intro w hSw; (try dsimp only at hSw); go_simp; (try with_reducible rfl))
                try simp only [put_laws]
                refine wpAnyH_take (i := 1) (v := ?vq1_1) (by simp only [List.getElem?_toArray, List.getElem?_cons_succ, List.getElem?_cons_zero]; rfl) (by kernel_rfl) (by kernel_rfl) (by kernel_rfl) (by exact fun _ _ _ h => h) (Or.inl ⟨by rfl, ?hq1_1⟩) hHeld ?rq1_1
                case hq1_1 => (intro w hSw; (try dsimp only at hSw); go_simp; (try with_reducible rfl))
                try simp only [put_laws]
                refine wpAnyH_take (i := 2) (v := ?vq1_2) (by simp only [List.getElem?_toArray, List.getElem?_cons_succ, List.getElem?_cons_zero]; rfl) (by kernel_rfl) (by kernel_rfl) (by kernel_rfl) (by exact fun _ _ _ h => h) (Or.inl ⟨by rfl, ?hq1_2⟩) hHeld ?rq1_2
                case hq1_2 => (intro w hSw; (try dsimp only at hSw); go_simp; (try with_reducible rfl))
                try simp only [put_laws]
                refine wpAnyH_take (i := 3) (v := ?vq1_3) (by simp only [List.getElem?_toArray, List.getElem?_cons_succ, List.getElem?_cons_zero]; rfl) (by kernel_rfl) (by kernel_rfl) (by kernel_rfl) (by exact fun _ _ _ h => h) (Or.inl ⟨by rfl, ?hq1_3⟩) hHeld ?rq1_3
                case hq1_3 => (intro w hSw; (try dsimp only at hSw); go_simp; (try with_reducible rfl))
                try simp only [put_laws]
                refine wpAnyH_take (i := 4) (v := ?vq1_4) (by simp only [List.getElem?_toArray, List.getElem?_cons_succ, List.getElem?_cons_zero]; rfl) (by kernel_rfl) (by kernel_rfl) (by kernel_rfl) (by exact fun _ _ _ h => h) (Or.inl ⟨by rfl, ?hq1_4⟩) hHeld ?rq1_4
                case hq1_4 => (intro w hSw; (try dsimp only at hSw); go_simp; (try with_reducible rfl))
                try simp only [put_laws]
                refine wpAnyH_ready (rs := [5]) (by kernel_rfl) (by simp) ?_
                refine AllReadyH.cons (by simp only [List.getElem?_toArray, List.getElem?_cons_succ, List.getElem?_cons_zero]; rfl) (fun K hK => ?_) AllReadyH.nil
                go_simp
                ((with_reducible refine (fits_no _ _ _ hfit.out).mono ?_); rintro e w1 ⟨rfl, hb1⟩)
                refine hK.out _ _ ?_ (fun hHeld => ?_)
                · (try dsimp only); (first | exact ⟨hc0, hc1, hc2, hc3, hm0, hm1, hm2, (Below.refl _ _).drew⟩ | (obtain ⟨k1, k2, k3, k4, k5, k6, k7, k8⟩ := hHeld; exact ⟨(hb1.cell (Nat.lt_of_lt_of_le hb k8.size)).trans k1, (hb1.cell (Nat.lt_of_lt_of_le hb k8.size)).trans k2, (hb1.cell (Nat.lt_of_lt_of_le hb k8.size)).trans k3, (hb1.cell (Nat.lt_of_lt_of_le hb k8.size)).trans k4, (hb1.cell (Nat.lt_of_lt_of_le hMr k8.size)).trans k5, (hb1.cell (Nat.lt_of_lt_of_le hMr k8.size)).trans k6, (hb1.cell (Nat.lt_of_lt_of_le hMr k8.size)).trans k7, k8.trans (hb1.mono k8.size)⟩))
                clear hK K
                try simp only [put_laws]
                refine wpAnyH_done (by kernel_rfl) ?_ _
                have hbK := hHeld.2.2.2.2.2.2.2
                go_wp2
                go_roundw
                case rel => exact ⟨j + 1, by omega, rfl, by go_num, by rw [any_next HZ, HA.out, HF.out, hfit.out]; rfl, below_next hbi hbK⟩
                case measure => simp [intOf]; omega
              · have hfit := Lib.hid hf
                clear hf
                go_wp2
                refine wp_region_held_drew (S := (fun w' => w'.cell? ⟨b, off + q * 4, none⟩ = some (.int .i64 x.f) ∧ w'.cell? ⟨b, off + q * 4 + 1, none⟩ = some (.int .i64 x.t) ∧ w'.cell? ⟨b, off + q * 4 + 2, none⟩ = some (.int .i64 x.r) ∧ w'.cell? ⟨b, off + q * 4 + 3, none⟩ = some (.int .i64 x.u) ∧ w'.cell? ⟨M, 0, none⟩ = some (.int .i64 y.f) ∧ w'.cell? ⟨M, 1, none⟩ = some (.int .i64 y.t) ∧ w'.cell? ⟨M, 2, none⟩ = some (.int .i64 y.r) ∧ Below wi.heap.size wi w')) (by kernel_rfl) ?_ (fun hHeld => ?_)
                · (try dsimp only); (first | exact ⟨hc0, hc1, hc2, hc3, hm0, hm1, hm2, (Below.refl _ _).drew⟩ | (obtain ⟨k1, k2, k3, k4, k5, k6, k7, k8⟩ := hHeld; exact ⟨(hb1.cell (Nat.lt_of_lt_of_le hb k8.size)).trans k1, (hb1.cell (Nat.lt_of_lt_of_le hb k8.size)).trans k2, (hb1.cell (Nat.lt_of_lt_of_le hb k8.size)).trans k3, (hb1.cell (Nat.lt_of_lt_of_le hb k8.size)).trans k4, (hb1.cell (Nat.lt_of_lt_of_le hMr k8.size)).trans k5, (hb1.cell (Nat.lt_of_lt_of_le hMr k8.size)).trans k6, (hb1.cell (Nat.lt_of_lt_of_le hMr k8.size)).trans k7, k8.trans (hb1.mono k8.size)⟩))
                refine wpAnyH_take (i := 0) (v := ?vq2_0) (by simp only [List.getElem?_toArray, List.getElem?_cons_zero]; rfl) (by kernel_rfl) (by kernel_rfl) (by kernel_rfl) (by exact fun _ _ _ h => h) (Or.inl ⟨by rfl, ?hq2_0⟩) hHeld ?rq2_0
                case hq2_0 => (intro w hSw; (try dsimp only at hSw); go_simp; (try with_reducible rfl))
                try simp only [put_laws]
                refine wpAnyH_take (i := 1) (v := ?vq2_1) (by simp only [List.getElem?_toArray, List.getElem?_cons_succ, List.getElem?_cons_zero]; rfl) (by kernel_rfl) (by kernel_rfl) (by kernel_rfl) (by exact fun _ _ _ h => h) (Or.inl ⟨by rfl, ?hq2_1⟩) hHeld ?rq2_1
                case hq2_1 => (intro w hSw; (try dsimp only at hSw); go_simp; (try with_reducible rfl))
                try simp only [put_laws]
                refine wpAnyH_take (i := 2) (v := ?vq2_2) (by simp only [List.getElem?_toArray, List.getElem?_cons_succ, List.getElem?_cons_zero]; rfl) (by kernel_rfl) (by kernel_rfl) (by kernel_rfl) (by exact fun _ _ _ h => h) (Or.inl ⟨by rfl, ?hq2_2⟩) hHeld ?rq2_2
                case hq2_2 => (intro w hSw; (try dsimp only at hSw); go_simp; (try with_reducible rfl))
                try simp only [put_laws]
                refine wpAnyH_take (i := 3) (v := ?vq2_3) (by simp only [List.getElem?_toArray, List.getElem?_cons_succ, List.getElem?_cons_zero]; rfl) (by kernel_rfl) (by kernel_rfl) (by kernel_rfl) (by exact fun _ _ _ h => h) (Or.inl ⟨by rfl, ?hq2_3⟩) hHeld ?rq2_3
                case hq2_3 => (intro w hSw; (try dsimp only at hSw); go_simp; (try with_reducible rfl))
                try simp only [put_laws]
                refine wpAnyH_take (i := 4) (v := ?vq2_4) (by simp only [List.getElem?_toArray, List.getElem?_cons_succ, List.getElem?_cons_zero]; rfl) (by kernel_rfl) (by kernel_rfl) (by kernel_rfl) (by exact fun _ _ _ h => h) (Or.inl ⟨by rfl, ?hq2_4⟩) hHeld ?rq2_4
                case hq2_4 => (intro w hSw; (try dsimp only at hSw); go_simp; (try with_reducible rfl))
                try simp only [put_laws]
                refine wpAnyH_ready (rs := [5]) (by kernel_rfl) (by simp) ?_
                refine AllReadyH.cons (by simp only [List.getElem?_toArray, List.getElem?_cons_succ, List.getElem?_cons_zero]; rfl) (fun K hK => ?_) AllReadyH.nil
                go_simp
                ((with_reducible refine (fits_yes _ _ _ hfit.out).mono ?_); rintro e w4 ⟨rfl, hb1⟩)
                refine hK.out _ _ ?_ (fun hHeld => ?_)
                · (try dsimp only); (first | exact ⟨hc0, hc1, hc2, hc3, hm0, hm1, hm2, (Below.refl _ _).drew⟩ | (obtain ⟨k1, k2, k3, k4, k5, k6, k7, k8⟩ := hHeld; exact ⟨(hb1.cell (Nat.lt_of_lt_of_le hb k8.size)).trans k1, (hb1.cell (Nat.lt_of_lt_of_le hb k8.size)).trans k2, (hb1.cell (Nat.lt_of_lt_of_le hb k8.size)).trans k3, (hb1.cell (Nat.lt_of_lt_of_le hb k8.size)).trans k4, (hb1.cell (Nat.lt_of_lt_of_le hMr k8.size)).trans k5, (hb1.cell (Nat.lt_of_lt_of_le hMr k8.size)).trans k6, (hb1.cell (Nat.lt_of_lt_of_le hMr k8.size)).trans k7, k8.trans (hb1.mono k8.size)⟩))
                clear hK K
                try simp only [put_laws]
                refine wpAnyH_done (by kernel_rfl) ?_ _
                have hbK := hHeld.2.2.2.2.2.2.2
                have hown4 := own_below howni hbK
                have hbw4 : Below w2.heap.size w2 w4 := below_next (below_next hbwb hbi) hbK
                go_wp2_with (at_builtin; refine wpList_push rfl (.tmp 56) (.tmp 58) rfl hbw4 hown4 _ rfl rfl (by omega) ?_; intro g' cap w5 hown5 hbw5)
                go_roundw
                case rel => exact ⟨k + 1, r + 1, by omega, by omega, by go_num, by rw [selK_yes (any_here HZ (by rw [HF.out]; exact hfit.out))]; exact hown5, hbw5⟩
                case measure => simp [intOf]; omega
            · go_wp2
              go_roundw
              case rel =>
                have h := HA.out
                rw [take_all HG.out (by omega)] at h
                exact ⟨k + 1, r, by omega, by omega, by go_num, by rw [selK_no h]; exact howni, hbwi⟩
              case measure => simp [intOf]; omega
        · go_wp2
          go_ret
          have hkm : k = ps.length := by have := HM.out; omega
          subst hkm
          rw [ofL_yes HB.out]
          exact ownR_row hown hb0 hbw

theorem l1In_idx_yes (n : Nat) (z : Int) (w : World) (h : idxB n z = true) : Calls Tryd.prog 42 #[.int .i64 z, .int .i64 0, .int .i64 ((n : Int) - 1)] w (RS w (.bool true)) := by
  have hb : (decide (0 ≤ z) && decide (z ≤ (n : Int) - 1)) = true := by unfold idxB at h; simp at h ⊢; omega
  rw [← hb]; exact l1In_any _ _ _ _
theorem l1In_idx_no (n : Nat) (z : Int) (w : World) (h : idxB n z = false) : Calls Tryd.prog 42 #[.int .i64 z, .int .i64 0, .int .i64 ((n : Int) - 1)] w (RS w (.bool false)) := by
  have hb : (decide (0 ≤ z) && decide (z ≤ (n : Int) - 1)) = false := by unfold idxB at h; simp at h ⊢; omega
  rw [← hb]; exact l1In_any _ _ _ _
theorem specFits_yes (x : C4) (y : P3) (w : World) (h : fitP x y = true) :
    Calls Tryd.prog 59 #[.agg #[.int .i64 x.f, .int .i64 x.t, .int .i64 x.r, .int .i64 x.u], .agg #[.int .i64 y.f, .int .i64 y.t, .int .i64 y.r]] w (RV w (.bool true)) := by rw [← h]; exact specFits_any _ _ _ _ _ _ _ _
theorem specFits_no (x : C4) (y : P3) (w : World) (h : fitP x y = false) :
    Calls Tryd.prog 59 #[.agg #[.int .i64 x.f, .int .i64 x.t, .int .i64 x.r, .int .i64 x.u], .agg #[.int .i64 y.f, .int .i64 y.t, .int .i64 y.r]] w (RV w (.bool false)) := by rw [← h]; exact specFits_any _ _ _ _ _ _ _ _

theorem ownR_empty {w w1 : World} {rs : List Int} (hb : Below w.heap.size w w1) (h : rs = []) : OwnR w rs (.returned (.slice (some ⟨w1.heap.size, 0, none⟩) 0 0)) (w1.alloc (.cells #[] 3)) := by
  subst h; exact ownR_mk rfl (own_ints (own_empty hb.size)) (hb.alloc hb.size _)

end Go.Proofs.YtmmaeninlhbaaaaDoor
