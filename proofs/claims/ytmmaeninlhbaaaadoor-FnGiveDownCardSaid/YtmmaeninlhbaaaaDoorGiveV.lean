/-
  GiveValid of the program and of the reference.
-/
import Derived.Test.YtmmaeninlhbaaaaDoorGive
import Derived.Test.YtmmaeninlhbaaaaDoorPlFor
import Derived.Test.YtmmaeninlhbaaaaDoorCars
import Derived.Test.YtmmaeninlhbaaaaDoorHas
namespace Go.Proofs.YtmmaeninlhbaaaaDoor
open Go.ChangeShapes Go.WideShapes Go.ChangeAt Go.RowKit

set_option maxHeartbeats 4000000 in
theorem specGiveValid_any (A : Option Addr) (n c : Nat) (cs : List C4) (P : Option Addr) (m pc : Nat) (ps : List P3) (G : Option Addr) (l gc : Nat) (g : List Int) (w : World)
    (hn : n ≤ c ∧ c ≤ 9223372036854775807) (hx : CarsAt w A n cs) (hm : m ≤ 9223372036854775807) (hp : PlacesAt w P m ps) (hl : l ≤ gc ∧ gc ≤ 9223372036854775807) (hg : IntsAt w G l g) :
    Calls Tryd.prog 25 #[.slice A n c, .slice P m pc, .slice G l gc] w (RV w (.bool (giveB cs ps g))) := by
  have HL := Lib.hid hx.len
  have HG := Lib.hid hg.len
  have HN := Lib.hid hn
  obtain ⟨hnc, hcm⟩ := hn
  obtain ⟨hlc, hgm⟩ := hl
  cases hC : carsB cs
  · have HC := Lib.hid hC
    go_enter Tryd.func25, Tryd.ntmps25
    go_wp2_with fail
    refine (specCarsValid_any A n c cs _ HN.out hx).mono ?_; rintro e w1 ⟨rfl, hb1⟩
    go_wp2
    go_ret
    exact ⟨ret_bool (giveB_cars HC.out).symm, hb1⟩
  have HC := Lib.hid hC
  cases hP : placesB ps
  · have HP := Lib.hid hP
    go_enter Tryd.func25, Tryd.ntmps25
    go_wp2_with fail
    refine (specCarsValid_any A n c cs _ HN.out hx).mono ?_; rintro e w1 ⟨rfl, hb1⟩
    go_wp2_with fail
    refine (specPlacesValid_any P m pc ps _ hm (hp.below hb1)).mono ?_; rintro e w2 ⟨rfl, hb2⟩
    go_wp2
    go_ret
    exact ⟨ret_bool (giveB_places HP.out).symm, below_next hb1 hb2⟩
  have HP := Lib.hid hP
  by_cases hln : l = n
  · subst hln
    go_enter Tryd.func25, Tryd.ntmps25
    go_wp2_with fail
    refine (specCarsValid_any A l c cs _ HN.out hx).mono ?_; rintro e w1 ⟨rfl, hb1⟩
    go_wp2_with fail
    refine (specPlacesValid_any P m pc ps _ hm (hp.below hb1)).mono ?_; rintro e w2 ⟨rfl, hb2⟩
    go_wp2
    clear hC hP
    have hb0 := below_next hb1 hb2
    clear hb1 hb2
    go_loopw [7] (fun i wr => ∃ k : Nat, k ≤ l ∧ i = .int .i64 k ∧ (∀ i, i < k → okAt cs ps g i = true) ∧ Below w.heap.size w wr) (fun i _ => l - (intOf i).toNat)
    case atStart => exact ⟨0, Nat.zero_le _, rfl, fun i h => by omega, hb0⟩
    case round =>
      obtain ⟨k, hk, rfl, hok, hbw⟩ := hrel
      have HOK := Lib.hid hok
      clear hok hb0
      by_cases hlt : k < l
      · have hpw := hp.below hbw
        have hgw := hg.below hbw
        obtain ⟨x, b, off, HX, rfl, hb, hc0, hc1, hc2, hc3⟩ := (hx.below hbw).get hlt
        obtain ⟨z, gb, goff, HZ, rfl, hgb, hg0⟩ := hgw.get hlt
        have HXO := Lib.hid (carsB_get HC.out HX)
        have hk0 : (0 : Int) ≤ (k : Int) := by omega
        have hk1 : (k : Int) < (l : Int) := by omega
        have hkc : k ≤ gc := by omega
        have HE := Lib.hid (okAt_get (ps := ps) HZ HX)
        by_cases hz1 : z = -1
        · subst hz1
          go_wp2
          refine wp_region_held_drew (S := (fun w' => w'.cell? ⟨gb, goff + k, none⟩ = some (.int .i64 (-1)) ∧ w'.cell? ⟨b, off + k * 4, none⟩ = some (.int .i64 x.f) ∧ w'.cell? ⟨b, off + k * 4 + 1, none⟩ = some (.int .i64 x.t) ∧ w'.cell? ⟨b, off + k * 4 + 2, none⟩ = some (.int .i64 x.r) ∧ w'.cell? ⟨b, off + k * 4 + 3, none⟩ = some (.int .i64 x.u) ∧ Below wr.heap.size wr w')) (by kernel_rfl) ?_ (fun hHeld => ?_)
          · (try dsimp only); (first | exact ⟨hg0, hc0, hc1, hc2, hc3, (Below.refl _ _).drew⟩ | exact hHeld | (obtain ⟨k0, k1, k2, k3, k4, k8⟩ := hHeld; exact ⟨(hb1.cell (Nat.lt_of_lt_of_le hgb k8.size)).trans k0, (hb1.cell (Nat.lt_of_lt_of_le hb k8.size)).trans k1, (hb1.cell (Nat.lt_of_lt_of_le hb k8.size)).trans k2, (hb1.cell (Nat.lt_of_lt_of_le hb k8.size)).trans k3, (hb1.cell (Nat.lt_of_lt_of_le hb k8.size)).trans k4, k8.trans (hb1.mono k8.size)⟩))
          refine wpAnyH_take (i := 0) (v := ?vq1_0) (by simp only [List.getElem?_toArray, List.getElem?_cons_zero]; rfl) (by kernel_rfl) (by kernel_rfl) (by kernel_rfl) (by exact fun _ _ _ h => h) (Or.inl ⟨by rfl, ?hq1_0⟩) hHeld ?rq1_0
          case hq1_0 => (intro w hSw; (try dsimp only at hSw); go_simp; (try with_reducible rfl))
          try simp only [put_laws]
          refine wpAnyH_take (i := 1) (v := ?vq1_1) (by simp only [List.getElem?_toArray, List.getElem?_cons_succ, List.getElem?_cons_zero]; rfl) (by kernel_rfl) (by kernel_rfl) (by kernel_rfl) (by exact fun _ _ _ h => h) (Or.inl ⟨by rfl, ?hq1_1⟩) hHeld ?rq1_1
          case hq1_1 => (intro w hSw; (try dsimp only at hSw); go_simp; (try with_reducible rfl))
          try simp only [put_laws]
          refine wpAnyH_take (i := 2) (v := ?vq1_2) (by simp only [List.getElem?_toArray, List.getElem?_cons_succ, List.getElem?_cons_zero]; rfl) (by kernel_rfl) (by kernel_rfl) (by kernel_rfl) (by exact fun _ _ _ h => h) (Or.inl ⟨by rfl, ?hq1_2⟩) hHeld ?rq1_2
          case hq1_2 => (intro w hSw; (try dsimp only at hSw); go_simp; (try with_reducible rfl))
          try simp only [put_laws]
          refine wpAnyH_take (i := 3) (v := ?vq1_3) (by simp only [List.getElem?_toArray, List.getElem?_cons_succ, List.getElem?_cons_zero]; rfl) (by kernel_rfl) (by kernel_rfl) (by kernel_rfl) (by exact fun _ _ _ h => h) (Or.inl ⟨by rfl, ?hq1_3⟩) hHeld ?rq1_3
          case hq1_3 => (intro w hSw; (try dsimp only at hSw); go_simp; (try with_reducible rfl))
          try simp only [put_laws]
          refine wpAnyH_take (i := 4) (v := ?vq1_4) (by simp only [List.getElem?_toArray, List.getElem?_cons_succ, List.getElem?_cons_zero]; rfl) (by kernel_rfl) (by kernel_rfl) (by kernel_rfl) (by exact fun _ _ _ h => h) (Or.inl ⟨by rfl, ?hq1_4⟩) hHeld ?rq1_4
          case hq1_4 => (intro w hSw; (try dsimp only at hSw); go_simp; (try with_reducible rfl))
          try simp only [put_laws]
          refine wpAnyH_take (i := 5) (v := ?vq1_5) (by simp only [List.getElem?_toArray, List.getElem?_cons_succ, List.getElem?_cons_zero]; rfl) (by kernel_rfl) (by kernel_rfl) (by kernel_rfl) (by exact fun _ _ _ h => h) (Or.inl ⟨by rfl, ?hq1_5⟩) hHeld ?rq1_5
          case hq1_5 => (intro w hSw; (try dsimp only at hSw); go_simp; (try with_reducible rfl))
          try simp only [put_laws]
          refine wpAnyH_take (i := 6) (v := undef) (by simp only [List.getElem?_toArray, List.getElem?_cons_succ, List.getElem?_cons_zero]; rfl) (by kernel_rfl) (by kernel_rfl) (by kernel_rfl) (by exact fun _ _ _ h => h) (Or.inr ⟨by rfl, rfl⟩) hHeld ?_
          try simp only [put_laws]
          refine wpAnyH_take (i := 7) (v := undef) (by simp only [List.getElem?_toArray, List.getElem?_cons_succ, List.getElem?_cons_zero]; rfl) (by kernel_rfl) (by kernel_rfl) (by kernel_rfl) (by exact fun _ _ _ h => h) (Or.inr ⟨by rfl, rfl⟩) hHeld ?_
          try simp only [put_laws]
          refine wpAnyH_take (i := 8) (v := undef) (by simp only [List.getElem?_toArray, List.getElem?_cons_succ, List.getElem?_cons_zero]; rfl) (by kernel_rfl) (by kernel_rfl) (by kernel_rfl) (by exact fun _ _ _ h => h) (Or.inr ⟨by rfl, rfl⟩) hHeld ?_
          try simp only [put_laws]
          refine wpAnyH_take (i := 9) (v := undef) (by simp only [List.getElem?_toArray, List.getElem?_cons_succ, List.getElem?_cons_zero]; rfl) (by kernel_rfl) (by kernel_rfl) (by kernel_rfl) (by exact fun _ _ _ h => h) (Or.inr ⟨by rfl, rfl⟩) hHeld ?_
          try simp only [put_laws]
          refine wpAnyH_take (i := 10) (v := undef) (by simp only [List.getElem?_toArray, List.getElem?_cons_succ, List.getElem?_cons_zero]; rfl) (by kernel_rfl) (by kernel_rfl) (by kernel_rfl) (by exact fun _ _ _ h => h) (Or.inr ⟨by rfl, rfl⟩) hHeld ?_
          try simp only [put_laws]
          refine wpAnyH_take (i := 11) (v := undef) (by simp only [List.getElem?_toArray, List.getElem?_cons_succ, List.getElem?_cons_zero]; rfl) (by kernel_rfl) (by kernel_rfl) (by kernel_rfl) (by exact fun _ _ _ h => h) (Or.inr ⟨by rfl, rfl⟩) hHeld ?_
          try simp only [put_laws]
          refine wpAnyH_take (i := 12) (v := undef) (by simp only [List.getElem?_toArray, List.getElem?_cons_succ, List.getElem?_cons_zero]; rfl) (by kernel_rfl) (by kernel_rfl) (by kernel_rfl) (by exact fun _ _ _ h => h) (Or.inr ⟨by rfl, rfl⟩) hHeld ?_
          try simp only [put_laws]
          refine wpAnyH_take (i := 13) (v := undef) (by simp only [List.getElem?_toArray, List.getElem?_cons_succ, List.getElem?_cons_zero]; rfl) (by kernel_rfl) (by kernel_rfl) (by kernel_rfl) (by exact fun _ _ _ h => h) (Or.inr ⟨by rfl, rfl⟩) hHeld ?_
          try simp only [put_laws]
          refine wpAnyH_take (i := 14) (v := undef) (by simp only [List.getElem?_toArray, List.getElem?_cons_succ, List.getElem?_cons_zero]; rfl) (by kernel_rfl) (by kernel_rfl) (by kernel_rfl) (by exact fun _ _ _ h => h) (Or.inr ⟨by rfl, rfl⟩) hHeld ?_
          try simp only [put_laws]
          refine wpAnyH_take (i := 15) (v := undef) (by simp only [List.getElem?_toArray, List.getElem?_cons_succ, List.getElem?_cons_zero]; rfl) (by kernel_rfl) (by kernel_rfl) (by kernel_rfl) (by exact fun _ _ _ h => h) (Or.inr ⟨by rfl, rfl⟩) hHeld ?_
          try simp only [put_laws]
          refine wpAnyH_take (i := 16) (v := undef) (by simp only [List.getElem?_toArray, List.getElem?_cons_succ, List.getElem?_cons_zero]; rfl) (by kernel_rfl) (by kernel_rfl) (by kernel_rfl) (by exact fun _ _ _ h => h) (Or.inr ⟨by rfl, rfl⟩) hHeld ?_
          try simp only [put_laws]
          refine wpAnyH_take (i := 17) (v := undef) (by simp only [List.getElem?_toArray, List.getElem?_cons_succ, List.getElem?_cons_zero]; rfl) (by kernel_rfl) (by kernel_rfl) (by kernel_rfl) (by exact fun _ _ _ h => h) (Or.inr ⟨by rfl, rfl⟩) hHeld ?_
          try simp only [put_laws]
          refine wpAnyH_take (i := 18) (v := undef) (by simp only [List.getElem?_toArray, List.getElem?_cons_succ, List.getElem?_cons_zero]; rfl) (by kernel_rfl) (by kernel_rfl) (by kernel_rfl) (by exact fun _ _ _ h => h) (Or.inr ⟨by rfl, rfl⟩) hHeld ?_
          try simp only [put_laws]
          refine wpAnyH_take (i := 19) (v := undef) (by simp only [List.getElem?_toArray, List.getElem?_cons_succ, List.getElem?_cons_zero]; rfl) (by kernel_rfl) (by kernel_rfl) (by kernel_rfl) (by exact fun _ _ _ h => h) (Or.inr ⟨by rfl, rfl⟩) hHeld ?_
          try simp only [put_laws]
          refine wpAnyH_take (i := 20) (v := undef) (by simp only [List.getElem?_toArray, List.getElem?_cons_succ, List.getElem?_cons_zero]; rfl) (by kernel_rfl) (by kernel_rfl) (by kernel_rfl) (by exact fun _ _ _ h => h) (Or.inr ⟨by rfl, rfl⟩) hHeld ?_
          try simp only [put_laws]
          refine wpAnyH_take (i := 21) (v := undef) (by simp only [List.getElem?_toArray, List.getElem?_cons_succ, List.getElem?_cons_zero]; rfl) (by kernel_rfl) (by kernel_rfl) (by kernel_rfl) (by exact fun _ _ _ h => h) (Or.inr ⟨by rfl, rfl⟩) hHeld ?_
          try simp only [put_laws]
          refine wpAnyH_take (i := 22) (v := undef) (by simp only [List.getElem?_toArray, List.getElem?_cons_succ, List.getElem?_cons_zero]; rfl) (by kernel_rfl) (by kernel_rfl) (by kernel_rfl) (by exact fun _ _ _ h => h) (Or.inr ⟨by rfl, rfl⟩) hHeld ?_
          try simp only [put_laws]
          refine wpAnyH_take (i := 23) (v := undef) (by simp only [List.getElem?_toArray, List.getElem?_cons_succ, List.getElem?_cons_zero]; rfl) (by kernel_rfl) (by kernel_rfl) (by kernel_rfl) (by exact fun _ _ _ h => h) (Or.inr ⟨by rfl, rfl⟩) hHeld ?_
          try simp only [put_laws]
          refine wpAnyH_take (i := 24) (v := undef) (by simp only [List.getElem?_toArray, List.getElem?_cons_succ, List.getElem?_cons_zero]; rfl) (by kernel_rfl) (by kernel_rfl) (by kernel_rfl) (by exact fun _ _ _ h => h) (Or.inr ⟨by rfl, rfl⟩) hHeld ?_
          try simp only [put_laws]
          refine wpAnyH_take (i := 25) (v := undef) (by simp only [List.getElem?_toArray, List.getElem?_cons_succ, List.getElem?_cons_zero]; rfl) (by kernel_rfl) (by kernel_rfl) (by kernel_rfl) (by exact fun _ _ _ h => h) (Or.inr ⟨by rfl, rfl⟩) hHeld ?_
          try simp only [put_laws]
          refine wpAnyH_take (i := 26) (v := undef) (by simp only [List.getElem?_toArray, List.getElem?_cons_succ, List.getElem?_cons_zero]; rfl) (by kernel_rfl) (by kernel_rfl) (by kernel_rfl) (by exact fun _ _ _ h => h) (Or.inr ⟨by rfl, rfl⟩) hHeld ?_
          try simp only [put_laws]
          refine wpAnyH_take (i := 27) (v := undef) (by simp only [List.getElem?_toArray, List.getElem?_cons_succ, List.getElem?_cons_zero]; rfl) (by kernel_rfl) (by kernel_rfl) (by kernel_rfl) (by exact fun _ _ _ h => h) (Or.inr ⟨by rfl, rfl⟩) hHeld ?_
          try simp only [put_laws]
          refine wpAnyH_take (i := 28) (v := ?vq1_28) (by simp only [List.getElem?_toArray, List.getElem?_cons_succ, List.getElem?_cons_zero]; rfl) (by kernel_rfl) (by kernel_rfl) (by kernel_rfl) (by exact fun _ _ _ h => h) (Or.inl ⟨by rfl, ?hq1_28⟩) hHeld ?rq1_28
          case hq1_28 => (intro w hSw; (try dsimp only at hSw); go_simp; (try with_reducible rfl))
          try simp only [put_laws]
          refine wpAnyH_done (by kernel_rfl) ?_ _
          have hbK := hHeld.2.2.2.2.2
          go_wp2
          go_roundw
          case rel => exact ⟨k + 1, by omega, by go_num, okAt_next HOK.out (by rw [HE.out]; exact okZ_none _ _ _), hbw.trans (hbK.mono hbw.size)⟩
          case measure => simp [intOf]; omega
        · have hzb : (z != -1) = true := by simpa using hz1
          have HE2 := Lib.hid (okZ_spec (prev := g.take k) hz1 HXO.out HP.out)
          have HZ1 := Lib.hid hz1
          clear hz1
          cases h1 : hasB (forL x ps) z
          · have H1 := Lib.hid h1
            clear h1
            go_wp2
            refine wp_region_held_drew (S := (fun w' => w'.cell? ⟨gb, goff + k, none⟩ = some (.int .i64 z) ∧ w'.cell? ⟨b, off + k * 4, none⟩ = some (.int .i64 x.f) ∧ w'.cell? ⟨b, off + k * 4 + 1, none⟩ = some (.int .i64 x.t) ∧ w'.cell? ⟨b, off + k * 4 + 2, none⟩ = some (.int .i64 x.r) ∧ w'.cell? ⟨b, off + k * 4 + 3, none⟩ = some (.int .i64 x.u) ∧ Below wr.heap.size wr w')) (by kernel_rfl) ?_ (fun hHeld => ?_)
            · (try dsimp only); (first | exact ⟨hg0, hc0, hc1, hc2, hc3, (Below.refl _ _).drew⟩ | exact hHeld | (obtain ⟨k0, k1, k2, k3, k4, k8⟩ := hHeld; exact ⟨(hb1.cell (Nat.lt_of_lt_of_le hgb k8.size)).trans k0, (hb1.cell (Nat.lt_of_lt_of_le hb k8.size)).trans k1, (hb1.cell (Nat.lt_of_lt_of_le hb k8.size)).trans k2, (hb1.cell (Nat.lt_of_lt_of_le hb k8.size)).trans k3, (hb1.cell (Nat.lt_of_lt_of_le hb k8.size)).trans k4, k8.trans (hb1.mono k8.size)⟩))
            refine wpAnyH_take (i := 0) (v := ?vq2_0) (by simp only [List.getElem?_toArray, List.getElem?_cons_zero]; rfl) (by kernel_rfl) (by kernel_rfl) (by kernel_rfl) (by exact fun _ _ _ h => h) (Or.inl ⟨by rfl, ?hq2_0⟩) hHeld ?rq2_0
            case hq2_0 => (intro w hSw; (try dsimp only at hSw); go_simp; (try with_reducible rfl))
            try simp only [put_laws]
            refine wpAnyH_take (i := 1) (v := ?vq2_1) (by simp only [List.getElem?_toArray, List.getElem?_cons_succ, List.getElem?_cons_zero]; rfl) (by kernel_rfl) (by kernel_rfl) (by kernel_rfl) (by exact fun _ _ _ h => h) (Or.inl ⟨by rfl, ?hq2_1⟩) hHeld ?rq2_1
            case hq2_1 => (intro w hSw; (try dsimp only at hSw); go_simp; (try with_reducible rfl))
            try simp only [put_laws]
            refine wpAnyH_take (i := 2) (v := ?vq2_2) (by simp only [List.getElem?_toArray, List.getElem?_cons_succ, List.getElem?_cons_zero]; rfl) (by kernel_rfl) (by kernel_rfl) (by kernel_rfl) (by exact fun _ _ _ h => h) (Or.inl ⟨by rfl, ?hq2_2⟩) hHeld ?rq2_2
            case hq2_2 => (intro w hSw; (try dsimp only at hSw); go_simp; (try with_reducible rfl))
            try simp only [put_laws]
            refine wpAnyH_take (i := 3) (v := ?vq2_3) (by simp only [List.getElem?_toArray, List.getElem?_cons_succ, List.getElem?_cons_zero]; rfl) (by kernel_rfl) (by kernel_rfl) (by kernel_rfl) (by exact fun _ _ _ h => h) (Or.inl ⟨by rfl, ?hq2_3⟩) hHeld ?rq2_3
            case hq2_3 => (intro w hSw; (try dsimp only at hSw); go_simp; (try with_reducible rfl))
            try simp only [put_laws]
            refine wpAnyH_take (i := 4) (v := ?vq2_4) (by simp only [List.getElem?_toArray, List.getElem?_cons_succ, List.getElem?_cons_zero]; rfl) (by kernel_rfl) (by kernel_rfl) (by kernel_rfl) (by exact fun _ _ _ h => h) (Or.inl ⟨by rfl, ?hq2_4⟩) hHeld ?rq2_4
            case hq2_4 => (intro w hSw; (try dsimp only at hSw); go_simp; (try with_reducible rfl))
            try simp only [put_laws]
            refine wpAnyH_take (i := 5) (v := ?vq2_5) (by simp only [List.getElem?_toArray, List.getElem?_cons_succ, List.getElem?_cons_zero]; rfl) (by kernel_rfl) (by kernel_rfl) (by kernel_rfl) (by exact fun _ _ _ h => h) (Or.inl ⟨by rfl, ?hq2_5⟩) hHeld ?rq2_5
            case hq2_5 => (intro w hSw; (try dsimp only at hSw); go_simp; (try with_reducible rfl))
            try simp only [put_laws]
            refine wpAnyH_take (i := 6) (v := ?vq2_6) (by simp only [List.getElem?_toArray, List.getElem?_cons_succ, List.getElem?_cons_zero]; rfl) (by kernel_rfl) (by kernel_rfl) (by kernel_rfl) (by exact fun _ _ _ h => h) (Or.inl ⟨by rfl, ?hq2_6⟩) hHeld ?rq2_6
            case hq2_6 => (intro w hSw; (try dsimp only at hSw); go_simp; (try with_reducible rfl))
            try simp only [put_laws]
            refine wpAnyH_take (i := 7) (v := ?vq2_7) (by simp only [List.getElem?_toArray, List.getElem?_cons_succ, List.getElem?_cons_zero]; rfl) (by kernel_rfl) (by kernel_rfl) (by kernel_rfl) (by exact fun _ _ _ h => h) (Or.inl ⟨by rfl, ?hq2_7⟩) hHeld ?rq2_7
            case hq2_7 => (intro w hSw; (try dsimp only at hSw); go_simp; (try with_reducible rfl))
            try simp only [put_laws]
            refine wpAnyH_take (i := 8) (v := ?vq2_8) (by simp only [List.getElem?_toArray, List.getElem?_cons_succ, List.getElem?_cons_zero]; rfl) (by kernel_rfl) (by kernel_rfl) (by kernel_rfl) (by exact fun _ _ _ h => h) (Or.inl ⟨by rfl, ?hq2_8⟩) hHeld ?rq2_8
            case hq2_8 => (intro w hSw; (try dsimp only at hSw); go_simp; (try with_reducible rfl))
            try simp only [put_laws]
            refine wpAnyH_take (i := 9) (v := ?vq2_9) (by simp only [List.getElem?_toArray, List.getElem?_cons_succ, List.getElem?_cons_zero]; rfl) (by kernel_rfl) (by kernel_rfl) (by kernel_rfl) (by exact fun _ _ _ h => h) (Or.inl ⟨by rfl, ?hq2_9⟩) hHeld ?rq2_9
            case hq2_9 => (intro w hSw; (try dsimp only at hSw); go_simp; (try with_reducible rfl))
            try simp only [put_laws]
            refine wpAnyH_take (i := 10) (v := ?vq2_10) (by simp only [List.getElem?_toArray, List.getElem?_cons_succ, List.getElem?_cons_zero]; rfl) (by kernel_rfl) (by kernel_rfl) (by kernel_rfl) (by exact fun _ _ _ h => h) (Or.inl ⟨by rfl, ?hq2_10⟩) hHeld ?rq2_10
            case hq2_10 => (intro w hSw; (try dsimp only at hSw); go_simp; (try with_reducible rfl))
            try simp only [put_laws]
            refine wpAnyH_take (i := 12) (v := ?vq2_12) (by simp only [List.getElem?_toArray, List.getElem?_cons_succ, List.getElem?_cons_zero]; rfl) (by kernel_rfl) (by kernel_rfl) (by kernel_rfl) (by exact fun _ _ _ h => h) (Or.inl ⟨by rfl, ?hq2_12⟩) hHeld ?rq2_12
            case hq2_12 => (intro w hSw; (try dsimp only at hSw); go_simp; (try with_reducible rfl))
            try simp only [put_laws]
            refine wpAnyH_take (i := 13) (v := ?vq2_13) (by simp only [List.getElem?_toArray, List.getElem?_cons_succ, List.getElem?_cons_zero]; rfl) (by kernel_rfl) (by kernel_rfl) (by kernel_rfl) (by exact fun _ _ _ h => h) (Or.inl ⟨by rfl, ?hq2_13⟩) hHeld ?rq2_13
            case hq2_13 => (intro w hSw; (try dsimp only at hSw); go_simp; (try with_reducible rfl))
            try simp only [put_laws]
            refine wpAnyH_take (i := 14) (v := ?vq2_14) (by simp only [List.getElem?_toArray, List.getElem?_cons_succ, List.getElem?_cons_zero]; rfl) (by kernel_rfl) (by kernel_rfl) (by kernel_rfl) (by exact fun _ _ _ h => h) (Or.inl ⟨by rfl, ?hq2_14⟩) hHeld ?rq2_14
            case hq2_14 => (intro w hSw; (try dsimp only at hSw); go_simp; (try with_reducible rfl))
            try simp only [put_laws]
            refine wpAnyH_take (i := 15) (v := ?vq2_15) (by simp only [List.getElem?_toArray, List.getElem?_cons_succ, List.getElem?_cons_zero]; rfl) (by kernel_rfl) (by kernel_rfl) (by kernel_rfl) (by exact fun _ _ _ h => h) (Or.inl ⟨by rfl, ?hq2_15⟩) hHeld ?rq2_15
            case hq2_15 => (intro w hSw; (try dsimp only at hSw); go_simp; (try with_reducible rfl))
            try simp only [put_laws]
            refine wpAnyH_ready (rs := [11]) (by kernel_rfl) (by simp) ?_
            refine AllReadyH.cons (by simp only [List.getElem?_toArray, List.getElem?_cons_succ, List.getElem?_cons_zero]; rfl) (fun K hK => ?_) AllReadyH.nil
            go_simp
            (refine (specPlacesFor_any x P m pc ps _ (by omega) (hpw.below hHeld.2.2.2.2.2)).mono ?_; rintro e w1 ⟨Q, qn, qc, rfl, hqn, Qo, hb1⟩; have qle : qn ≤ 6 := (by have := forL_short x ps; omega); clear hqn)
            refine hK.out _ _ ?_ (fun hHeld => ?_)
            · (try dsimp only); (first | exact ⟨hg0, hc0, hc1, hc2, hc3, (Below.refl _ _).drew⟩ | exact hHeld | (obtain ⟨k0, k1, k2, k3, k4, k8⟩ := hHeld; exact ⟨(hb1.cell (Nat.lt_of_lt_of_le hgb k8.size)).trans k0, (hb1.cell (Nat.lt_of_lt_of_le hb k8.size)).trans k1, (hb1.cell (Nat.lt_of_lt_of_le hb k8.size)).trans k2, (hb1.cell (Nat.lt_of_lt_of_le hb k8.size)).trans k3, (hb1.cell (Nat.lt_of_lt_of_le hb k8.size)).trans k4, k8.trans (hb1.mono k8.size)⟩))
            clear hK K
            try simp only [put_laws]
            refine wpAnyH_ready (rs := [16]) (by kernel_rfl) (by simp) ?_
            refine AllReadyH.cons (by simp only [List.getElem?_toArray, List.getElem?_cons_succ, List.getElem?_cons_zero]; rfl) (fun K hK => ?_) AllReadyH.nil
            go_simp
            (have QA : IntsAt _ Q qn (forL x ps) := Qo.slAt; (with_reducible refine (l1Has_no Q qn qc (forL x ps) z _ (by omega) QA H1.out).mono ?_); rintro e w1 ⟨rfl, rfl⟩)
            refine hK.out _ _ ?_ (fun hHeld => ?_)
            · (try dsimp only); (first | exact ⟨hg0, hc0, hc1, hc2, hc3, (Below.refl _ _).drew⟩ | exact hHeld | (obtain ⟨k0, k1, k2, k3, k4, k8⟩ := hHeld; exact ⟨(hb1.cell (Nat.lt_of_lt_of_le hgb k8.size)).trans k0, (hb1.cell (Nat.lt_of_lt_of_le hb k8.size)).trans k1, (hb1.cell (Nat.lt_of_lt_of_le hb k8.size)).trans k2, (hb1.cell (Nat.lt_of_lt_of_le hb k8.size)).trans k3, (hb1.cell (Nat.lt_of_lt_of_le hb k8.size)).trans k4, k8.trans (hb1.mono k8.size)⟩))
            clear hK K
            try simp only [put_laws]
            refine wpAnyH_take (i := 17) (v := ?vq2_17) (by simp only [List.getElem?_toArray, List.getElem?_cons_succ, List.getElem?_cons_zero]; rfl) (by kernel_rfl) (by kernel_rfl) (by kernel_rfl) (by exact fun _ _ _ h => h) (Or.inl ⟨by rfl, ?hq2_17⟩) hHeld ?rq2_17
            case hq2_17 => (intro w hSw; (try dsimp only at hSw); go_simp; (try with_reducible rfl))
            try simp only [put_laws]
            refine wpAnyH_take (i := 18) (v := ?vq2_18) (by simp only [List.getElem?_toArray, List.getElem?_cons_succ, List.getElem?_cons_zero]; rfl) (by kernel_rfl) (by kernel_rfl) (by kernel_rfl) (by exact fun _ _ _ h => h) (Or.inl ⟨by rfl, ?hq2_18⟩) hHeld ?rq2_18
            case hq2_18 => (intro w hSw; (try dsimp only at hSw); go_simp; (try with_reducible rfl))
            try simp only [put_laws]
            refine wpAnyH_take (i := 19) (v := undef) (by simp only [List.getElem?_toArray, List.getElem?_cons_succ, List.getElem?_cons_zero]; rfl) (by kernel_rfl) (by kernel_rfl) (by kernel_rfl) (by exact fun _ _ _ h => h) (Or.inr ⟨by rfl, rfl⟩) hHeld ?_
            try simp only [put_laws]
            refine wpAnyH_take (i := 20) (v := undef) (by simp only [List.getElem?_toArray, List.getElem?_cons_succ, List.getElem?_cons_zero]; rfl) (by kernel_rfl) (by kernel_rfl) (by kernel_rfl) (by exact fun _ _ _ h => h) (Or.inr ⟨by rfl, rfl⟩) hHeld ?_
            try simp only [put_laws]
            refine wpAnyH_take (i := 21) (v := undef) (by simp only [List.getElem?_toArray, List.getElem?_cons_succ, List.getElem?_cons_zero]; rfl) (by kernel_rfl) (by kernel_rfl) (by kernel_rfl) (by exact fun _ _ _ h => h) (Or.inr ⟨by rfl, rfl⟩) hHeld ?_
            try simp only [put_laws]
            refine wpAnyH_take (i := 22) (v := undef) (by simp only [List.getElem?_toArray, List.getElem?_cons_succ, List.getElem?_cons_zero]; rfl) (by kernel_rfl) (by kernel_rfl) (by kernel_rfl) (by exact fun _ _ _ h => h) (Or.inr ⟨by rfl, rfl⟩) hHeld ?_
            try simp only [put_laws]
            refine wpAnyH_take (i := 23) (v := undef) (by simp only [List.getElem?_toArray, List.getElem?_cons_succ, List.getElem?_cons_zero]; rfl) (by kernel_rfl) (by kernel_rfl) (by kernel_rfl) (by exact fun _ _ _ h => h) (Or.inr ⟨by rfl, rfl⟩) hHeld ?_
            try simp only [put_laws]
            refine wpAnyH_take (i := 24) (v := undef) (by simp only [List.getElem?_toArray, List.getElem?_cons_succ, List.getElem?_cons_zero]; rfl) (by kernel_rfl) (by kernel_rfl) (by kernel_rfl) (by exact fun _ _ _ h => h) (Or.inr ⟨by rfl, rfl⟩) hHeld ?_
            try simp only [put_laws]
            refine wpAnyH_take (i := 25) (v := undef) (by simp only [List.getElem?_toArray, List.getElem?_cons_succ, List.getElem?_cons_zero]; rfl) (by kernel_rfl) (by kernel_rfl) (by kernel_rfl) (by exact fun _ _ _ h => h) (Or.inr ⟨by rfl, rfl⟩) hHeld ?_
            try simp only [put_laws]
            refine wpAnyH_take (i := 26) (v := undef) (by simp only [List.getElem?_toArray, List.getElem?_cons_succ, List.getElem?_cons_zero]; rfl) (by kernel_rfl) (by kernel_rfl) (by kernel_rfl) (by exact fun _ _ _ h => h) (Or.inr ⟨by rfl, rfl⟩) hHeld ?_
            try simp only [put_laws]
            refine wpAnyH_take (i := 27) (v := ?vq2_27) (by simp only [List.getElem?_toArray, List.getElem?_cons_succ, List.getElem?_cons_zero]; rfl) (by kernel_rfl) (by kernel_rfl) (by kernel_rfl) (by exact fun _ _ _ h => h) (Or.inl ⟨by rfl, ?hq2_27⟩) hHeld ?rq2_27
            case hq2_27 => (intro w hSw; (try dsimp only at hSw); go_simp; (try with_reducible rfl))
            try simp only [put_laws]
            refine wpAnyH_take (i := 28) (v := ?vq2_28) (by simp only [List.getElem?_toArray, List.getElem?_cons_succ, List.getElem?_cons_zero]; rfl) (by kernel_rfl) (by kernel_rfl) (by kernel_rfl) (by exact fun _ _ _ h => h) (Or.inl ⟨by rfl, ?hq2_28⟩) hHeld ?rq2_28
            case hq2_28 => (intro w hSw; (try dsimp only at hSw); go_simp; (try with_reducible rfl))
            try simp only [put_laws]
            refine wpAnyH_done (by kernel_rfl) ?_ _
            have hbK := hHeld.2.2.2.2.2
            go_wp2
            go_ret
            refine ⟨ret_bool ?_, hbw.trans (hbK.mono hbw.size)⟩
            symm
            refine giveB_bad (k := k) (by have := HG.out; omega) ?_
            rw [HE.out, HE2.out]
            have h := H1.out
            unfold hasB at h
            rw [h, Bool.false_and]
          · have H1 := Lib.hid h1
            clear h1
            cases h2 : hasB (g.take k) z
            · have H2 := Lib.hid h2
              clear h2
              go_wp2
              refine wp_region_held_drew (S := (fun w' => w'.cell? ⟨gb, goff + k, none⟩ = some (.int .i64 z) ∧ w'.cell? ⟨b, off + k * 4, none⟩ = some (.int .i64 x.f) ∧ w'.cell? ⟨b, off + k * 4 + 1, none⟩ = some (.int .i64 x.t) ∧ w'.cell? ⟨b, off + k * 4 + 2, none⟩ = some (.int .i64 x.r) ∧ w'.cell? ⟨b, off + k * 4 + 3, none⟩ = some (.int .i64 x.u) ∧ Below wr.heap.size wr w')) (by kernel_rfl) ?_ (fun hHeld => ?_)
              · (try dsimp only); (first | exact ⟨hg0, hc0, hc1, hc2, hc3, (Below.refl _ _).drew⟩ | exact hHeld | (obtain ⟨k0, k1, k2, k3, k4, k8⟩ := hHeld; exact ⟨(hb1.cell (Nat.lt_of_lt_of_le hgb k8.size)).trans k0, (hb1.cell (Nat.lt_of_lt_of_le hb k8.size)).trans k1, (hb1.cell (Nat.lt_of_lt_of_le hb k8.size)).trans k2, (hb1.cell (Nat.lt_of_lt_of_le hb k8.size)).trans k3, (hb1.cell (Nat.lt_of_lt_of_le hb k8.size)).trans k4, k8.trans (hb1.mono k8.size)⟩))
              refine wpAnyH_take (i := 0) (v := ?vq3_0) (by simp only [List.getElem?_toArray, List.getElem?_cons_zero]; rfl) (by kernel_rfl) (by kernel_rfl) (by kernel_rfl) (by exact fun _ _ _ h => h) (Or.inl ⟨by rfl, ?hq3_0⟩) hHeld ?rq3_0
              case hq3_0 => (intro w hSw; (try dsimp only at hSw); go_simp; (try with_reducible rfl))
              try simp only [put_laws]
              refine wpAnyH_take (i := 1) (v := ?vq3_1) (by simp only [List.getElem?_toArray, List.getElem?_cons_succ, List.getElem?_cons_zero]; rfl) (by kernel_rfl) (by kernel_rfl) (by kernel_rfl) (by exact fun _ _ _ h => h) (Or.inl ⟨by rfl, ?hq3_1⟩) hHeld ?rq3_1
              case hq3_1 => (intro w hSw; (try dsimp only at hSw); go_simp; (try with_reducible rfl))
              try simp only [put_laws]
              refine wpAnyH_take (i := 2) (v := ?vq3_2) (by simp only [List.getElem?_toArray, List.getElem?_cons_succ, List.getElem?_cons_zero]; rfl) (by kernel_rfl) (by kernel_rfl) (by kernel_rfl) (by exact fun _ _ _ h => h) (Or.inl ⟨by rfl, ?hq3_2⟩) hHeld ?rq3_2
              case hq3_2 => (intro w hSw; (try dsimp only at hSw); go_simp; (try with_reducible rfl))
              try simp only [put_laws]
              refine wpAnyH_take (i := 3) (v := ?vq3_3) (by simp only [List.getElem?_toArray, List.getElem?_cons_succ, List.getElem?_cons_zero]; rfl) (by kernel_rfl) (by kernel_rfl) (by kernel_rfl) (by exact fun _ _ _ h => h) (Or.inl ⟨by rfl, ?hq3_3⟩) hHeld ?rq3_3
              case hq3_3 => (intro w hSw; (try dsimp only at hSw); go_simp; (try with_reducible rfl))
              try simp only [put_laws]
              refine wpAnyH_take (i := 4) (v := ?vq3_4) (by simp only [List.getElem?_toArray, List.getElem?_cons_succ, List.getElem?_cons_zero]; rfl) (by kernel_rfl) (by kernel_rfl) (by kernel_rfl) (by exact fun _ _ _ h => h) (Or.inl ⟨by rfl, ?hq3_4⟩) hHeld ?rq3_4
              case hq3_4 => (intro w hSw; (try dsimp only at hSw); go_simp; (try with_reducible rfl))
              try simp only [put_laws]
              refine wpAnyH_take (i := 5) (v := ?vq3_5) (by simp only [List.getElem?_toArray, List.getElem?_cons_succ, List.getElem?_cons_zero]; rfl) (by kernel_rfl) (by kernel_rfl) (by kernel_rfl) (by exact fun _ _ _ h => h) (Or.inl ⟨by rfl, ?hq3_5⟩) hHeld ?rq3_5
              case hq3_5 => (intro w hSw; (try dsimp only at hSw); go_simp; (try with_reducible rfl))
              try simp only [put_laws]
              refine wpAnyH_take (i := 6) (v := ?vq3_6) (by simp only [List.getElem?_toArray, List.getElem?_cons_succ, List.getElem?_cons_zero]; rfl) (by kernel_rfl) (by kernel_rfl) (by kernel_rfl) (by exact fun _ _ _ h => h) (Or.inl ⟨by rfl, ?hq3_6⟩) hHeld ?rq3_6
              case hq3_6 => (intro w hSw; (try dsimp only at hSw); go_simp; (try with_reducible rfl))
              try simp only [put_laws]
              refine wpAnyH_take (i := 7) (v := ?vq3_7) (by simp only [List.getElem?_toArray, List.getElem?_cons_succ, List.getElem?_cons_zero]; rfl) (by kernel_rfl) (by kernel_rfl) (by kernel_rfl) (by exact fun _ _ _ h => h) (Or.inl ⟨by rfl, ?hq3_7⟩) hHeld ?rq3_7
              case hq3_7 => (intro w hSw; (try dsimp only at hSw); go_simp; (try with_reducible rfl))
              try simp only [put_laws]
              refine wpAnyH_take (i := 8) (v := ?vq3_8) (by simp only [List.getElem?_toArray, List.getElem?_cons_succ, List.getElem?_cons_zero]; rfl) (by kernel_rfl) (by kernel_rfl) (by kernel_rfl) (by exact fun _ _ _ h => h) (Or.inl ⟨by rfl, ?hq3_8⟩) hHeld ?rq3_8
              case hq3_8 => (intro w hSw; (try dsimp only at hSw); go_simp; (try with_reducible rfl))
              try simp only [put_laws]
              refine wpAnyH_take (i := 9) (v := ?vq3_9) (by simp only [List.getElem?_toArray, List.getElem?_cons_succ, List.getElem?_cons_zero]; rfl) (by kernel_rfl) (by kernel_rfl) (by kernel_rfl) (by exact fun _ _ _ h => h) (Or.inl ⟨by rfl, ?hq3_9⟩) hHeld ?rq3_9
              case hq3_9 => (intro w hSw; (try dsimp only at hSw); go_simp; (try with_reducible rfl))
              try simp only [put_laws]
              refine wpAnyH_take (i := 10) (v := ?vq3_10) (by simp only [List.getElem?_toArray, List.getElem?_cons_succ, List.getElem?_cons_zero]; rfl) (by kernel_rfl) (by kernel_rfl) (by kernel_rfl) (by exact fun _ _ _ h => h) (Or.inl ⟨by rfl, ?hq3_10⟩) hHeld ?rq3_10
              case hq3_10 => (intro w hSw; (try dsimp only at hSw); go_simp; (try with_reducible rfl))
              try simp only [put_laws]
              refine wpAnyH_take (i := 12) (v := ?vq3_12) (by simp only [List.getElem?_toArray, List.getElem?_cons_succ, List.getElem?_cons_zero]; rfl) (by kernel_rfl) (by kernel_rfl) (by kernel_rfl) (by exact fun _ _ _ h => h) (Or.inl ⟨by rfl, ?hq3_12⟩) hHeld ?rq3_12
              case hq3_12 => (intro w hSw; (try dsimp only at hSw); go_simp; (try with_reducible rfl))
              try simp only [put_laws]
              refine wpAnyH_take (i := 13) (v := ?vq3_13) (by simp only [List.getElem?_toArray, List.getElem?_cons_succ, List.getElem?_cons_zero]; rfl) (by kernel_rfl) (by kernel_rfl) (by kernel_rfl) (by exact fun _ _ _ h => h) (Or.inl ⟨by rfl, ?hq3_13⟩) hHeld ?rq3_13
              case hq3_13 => (intro w hSw; (try dsimp only at hSw); go_simp; (try with_reducible rfl))
              try simp only [put_laws]
              refine wpAnyH_take (i := 14) (v := ?vq3_14) (by simp only [List.getElem?_toArray, List.getElem?_cons_succ, List.getElem?_cons_zero]; rfl) (by kernel_rfl) (by kernel_rfl) (by kernel_rfl) (by exact fun _ _ _ h => h) (Or.inl ⟨by rfl, ?hq3_14⟩) hHeld ?rq3_14
              case hq3_14 => (intro w hSw; (try dsimp only at hSw); go_simp; (try with_reducible rfl))
              try simp only [put_laws]
              refine wpAnyH_take (i := 15) (v := ?vq3_15) (by simp only [List.getElem?_toArray, List.getElem?_cons_succ, List.getElem?_cons_zero]; rfl) (by kernel_rfl) (by kernel_rfl) (by kernel_rfl) (by exact fun _ _ _ h => h) (Or.inl ⟨by rfl, ?hq3_15⟩) hHeld ?rq3_15
              case hq3_15 => (intro w hSw; (try dsimp only at hSw); go_simp; (try with_reducible rfl))
              try simp only [put_laws]
              refine wpAnyH_ready (rs := [11]) (by kernel_rfl) (by simp) ?_
              refine AllReadyH.cons (by simp only [List.getElem?_toArray, List.getElem?_cons_succ, List.getElem?_cons_zero]; rfl) (fun K hK => ?_) AllReadyH.nil
              go_simp
              (refine (specPlacesFor_any x P m pc ps _ (by omega) (hpw.below hHeld.2.2.2.2.2)).mono ?_; rintro e w1 ⟨Q, qn, qc, rfl, hqn, Qo, hb1⟩; have qle : qn ≤ 6 := (by have := forL_short x ps; omega); clear hqn)
              refine hK.out _ _ ?_ (fun hHeld => ?_)
              · (try dsimp only); (first | exact ⟨hg0, hc0, hc1, hc2, hc3, (Below.refl _ _).drew⟩ | exact hHeld | (obtain ⟨k0, k1, k2, k3, k4, k8⟩ := hHeld; exact ⟨(hb1.cell (Nat.lt_of_lt_of_le hgb k8.size)).trans k0, (hb1.cell (Nat.lt_of_lt_of_le hb k8.size)).trans k1, (hb1.cell (Nat.lt_of_lt_of_le hb k8.size)).trans k2, (hb1.cell (Nat.lt_of_lt_of_le hb k8.size)).trans k3, (hb1.cell (Nat.lt_of_lt_of_le hb k8.size)).trans k4, k8.trans (hb1.mono k8.size)⟩))
              clear hK K
              try simp only [put_laws]
              refine wpAnyH_ready (rs := [16]) (by kernel_rfl) (by simp) ?_
              refine AllReadyH.cons (by simp only [List.getElem?_toArray, List.getElem?_cons_succ, List.getElem?_cons_zero]; rfl) (fun K hK => ?_) AllReadyH.nil
              go_simp
              (have QA : IntsAt _ Q qn (forL x ps) := Qo.slAt; (with_reducible refine (l1Has_yes Q qn qc (forL x ps) z _ (by omega) QA H1.out).mono ?_); rintro e w1 ⟨rfl, rfl⟩)
              refine hK.out _ _ ?_ (fun hHeld => ?_)
              · (try dsimp only); (first | exact ⟨hg0, hc0, hc1, hc2, hc3, (Below.refl _ _).drew⟩ | exact hHeld | (obtain ⟨k0, k1, k2, k3, k4, k8⟩ := hHeld; exact ⟨(hb1.cell (Nat.lt_of_lt_of_le hgb k8.size)).trans k0, (hb1.cell (Nat.lt_of_lt_of_le hb k8.size)).trans k1, (hb1.cell (Nat.lt_of_lt_of_le hb k8.size)).trans k2, (hb1.cell (Nat.lt_of_lt_of_le hb k8.size)).trans k3, (hb1.cell (Nat.lt_of_lt_of_le hb k8.size)).trans k4, k8.trans (hb1.mono k8.size)⟩))
              clear hK K
              try simp only [put_laws]
              refine wpAnyH_take (i := 17) (v := ?vq3_17) (by simp only [List.getElem?_toArray, List.getElem?_cons_succ, List.getElem?_cons_zero]; rfl) (by kernel_rfl) (by kernel_rfl) (by kernel_rfl) (by exact fun _ _ _ h => h) (Or.inl ⟨by rfl, ?hq3_17⟩) hHeld ?rq3_17
              case hq3_17 => (intro w hSw; (try dsimp only at hSw); go_simp; (try with_reducible rfl))
              try simp only [put_laws]
              refine wpAnyH_take (i := 18) (v := ?vq3_18) (by simp only [List.getElem?_toArray, List.getElem?_cons_succ, List.getElem?_cons_zero]; rfl) (by kernel_rfl) (by kernel_rfl) (by kernel_rfl) (by exact fun _ _ _ h => h) (Or.inl ⟨by rfl, ?hq3_18⟩) hHeld ?rq3_18
              case hq3_18 => (intro w hSw; (try dsimp only at hSw); go_simp; (try with_reducible rfl))
              try simp only [put_laws]
              refine wpAnyH_take (i := 19) (v := ?vq3_19) (by simp only [List.getElem?_toArray, List.getElem?_cons_succ, List.getElem?_cons_zero]; rfl) (by kernel_rfl) (by kernel_rfl) (by kernel_rfl) (by exact fun _ _ _ h => h) (Or.inl ⟨by rfl, ?hq3_19⟩) hHeld ?rq3_19
              case hq3_19 => (intro w hSw; (try dsimp only at hSw); go_simp; (try with_reducible rfl))
              try simp only [put_laws]
              refine wpAnyH_take (i := 20) (v := ?vq3_20) (by simp only [List.getElem?_toArray, List.getElem?_cons_succ, List.getElem?_cons_zero]; rfl) (by kernel_rfl) (by kernel_rfl) (by kernel_rfl) (by exact fun _ _ _ h => h) (Or.inl ⟨by rfl, ?hq3_20⟩) hHeld ?rq3_20
              case hq3_20 => (intro w hSw; (try dsimp only at hSw); go_simp; (try with_reducible rfl))
              try simp only [put_laws]
              refine wpAnyH_take (i := 21) (v := ?vq3_21) (by simp only [List.getElem?_toArray, List.getElem?_cons_succ, List.getElem?_cons_zero]; rfl) (by kernel_rfl) (by kernel_rfl) (by kernel_rfl) (by exact fun _ _ _ h => h) (Or.inl ⟨by rfl, ?hq3_21⟩) hHeld ?rq3_21
              case hq3_21 => (intro w hSw; (try dsimp only at hSw); go_simp; (try with_reducible rfl))
              try simp only [put_laws]
              refine wpAnyH_take (i := 22) (v := ?vq3_22) (by simp only [List.getElem?_toArray, List.getElem?_cons_succ, List.getElem?_cons_zero]; rfl) (by kernel_rfl) (by kernel_rfl) (by kernel_rfl) (by exact fun _ _ _ h => h) (Or.inl ⟨by rfl, ?hq3_22⟩) hHeld ?rq3_22
              case hq3_22 => (intro w hSw; (try dsimp only at hSw); go_simp; (try with_reducible rfl))
              try simp only [put_laws]
              refine wpAnyH_take (i := 23) (v := ?vq3_23) (by simp only [List.getElem?_toArray, List.getElem?_cons_succ, List.getElem?_cons_zero]; rfl) (by kernel_rfl) (by kernel_rfl) (by kernel_rfl) (by exact fun _ _ _ h => h) (Or.inl ⟨by rfl, ?hq3_23⟩) hHeld ?rq3_23
              case hq3_23 => (intro w hSw; (try dsimp only at hSw); go_simp; (try with_reducible rfl))
              try simp only [put_laws]
              refine wpAnyH_take (i := 24) (v := ?vq3_24) (by simp only [List.getElem?_toArray, List.getElem?_cons_succ, List.getElem?_cons_zero]; rfl) (by kernel_rfl) (by kernel_rfl) (by kernel_rfl) (by exact fun _ _ _ h => h) (Or.inl ⟨by rfl, ?hq3_24⟩) hHeld ?rq3_24
              case hq3_24 => (intro w hSw; (try dsimp only at hSw); go_simp; (try with_reducible rfl))
              try simp only [put_laws]
              refine wpAnyH_take (i := 25) (v := ?vq3_25) (by simp only [List.getElem?_toArray, List.getElem?_cons_succ, List.getElem?_cons_zero]; rfl) (by kernel_rfl) (by kernel_rfl) (by kernel_rfl) (by exact fun _ _ _ h => h) (Or.inl ⟨by rfl, ?hq3_25⟩) hHeld ?rq3_25
              case hq3_25 => (intro w hSw; (try dsimp only at hSw); go_simp; (try with_reducible rfl))
              try simp only [put_laws]
              refine wpAnyH_ready (rs := [26]) (by kernel_rfl) (by simp) ?_
              refine AllReadyH.cons (by simp only [List.getElem?_toArray, List.getElem?_cons_succ, List.getElem?_cons_zero]; rfl) (fun K hK => ?_) AllReadyH.nil
              go_simp
              ((with_reducible refine (l1Has_no (some ⟨gb, goff, none⟩) k gc (g.take k) z _ (by omega) ((hgw.take (by omega)).below hHeld.2.2.2.2.2) H2.out).mono ?_); rintro e w1 ⟨rfl, rfl⟩)
              refine hK.out _ _ ?_ (fun hHeld => ?_)
              · (try dsimp only); (first | exact ⟨hg0, hc0, hc1, hc2, hc3, (Below.refl _ _).drew⟩ | exact hHeld | (obtain ⟨k0, k1, k2, k3, k4, k8⟩ := hHeld; exact ⟨(hb1.cell (Nat.lt_of_lt_of_le hgb k8.size)).trans k0, (hb1.cell (Nat.lt_of_lt_of_le hb k8.size)).trans k1, (hb1.cell (Nat.lt_of_lt_of_le hb k8.size)).trans k2, (hb1.cell (Nat.lt_of_lt_of_le hb k8.size)).trans k3, (hb1.cell (Nat.lt_of_lt_of_le hb k8.size)).trans k4, k8.trans (hb1.mono k8.size)⟩))
              clear hK K
              try simp only [put_laws]
              refine wpAnyH_take (i := 27) (v := ?vq3_27) (by simp only [List.getElem?_toArray, List.getElem?_cons_succ, List.getElem?_cons_zero]; rfl) (by kernel_rfl) (by kernel_rfl) (by kernel_rfl) (by exact fun _ _ _ h => h) (Or.inl ⟨by rfl, ?hq3_27⟩) hHeld ?rq3_27
              case hq3_27 => (intro w hSw; (try dsimp only at hSw); go_simp; (try with_reducible rfl))
              try simp only [put_laws]
              refine wpAnyH_take (i := 28) (v := ?vq3_28) (by simp only [List.getElem?_toArray, List.getElem?_cons_succ, List.getElem?_cons_zero]; rfl) (by kernel_rfl) (by kernel_rfl) (by kernel_rfl) (by exact fun _ _ _ h => h) (Or.inl ⟨by rfl, ?hq3_28⟩) hHeld ?rq3_28
              case hq3_28 => (intro w hSw; (try dsimp only at hSw); go_simp; (try with_reducible rfl))
              try simp only [put_laws]
              refine wpAnyH_done (by kernel_rfl) ?_ _
              have hbK := hHeld.2.2.2.2.2
              go_wp2
              go_roundw
              case rel =>
                refine ⟨k + 1, by omega, by go_num, okAt_next HOK.out ?_, hbw.trans (hbK.mono hbw.size)⟩
                rw [HE.out, HE2.out]
                have h := H1.out
                have h' := H2.out
                unfold hasB at h h'
                rw [h, h']; rfl
              case measure => simp [intOf]; omega
            · have H2 := Lib.hid h2
              clear h2
              go_wp2
              refine wp_region_held_drew (S := (fun w' => w'.cell? ⟨gb, goff + k, none⟩ = some (.int .i64 z) ∧ w'.cell? ⟨b, off + k * 4, none⟩ = some (.int .i64 x.f) ∧ w'.cell? ⟨b, off + k * 4 + 1, none⟩ = some (.int .i64 x.t) ∧ w'.cell? ⟨b, off + k * 4 + 2, none⟩ = some (.int .i64 x.r) ∧ w'.cell? ⟨b, off + k * 4 + 3, none⟩ = some (.int .i64 x.u) ∧ Below wr.heap.size wr w')) (by kernel_rfl) ?_ (fun hHeld => ?_)
              · (try dsimp only); (first | exact ⟨hg0, hc0, hc1, hc2, hc3, (Below.refl _ _).drew⟩ | exact hHeld | (obtain ⟨k0, k1, k2, k3, k4, k8⟩ := hHeld; exact ⟨(hb1.cell (Nat.lt_of_lt_of_le hgb k8.size)).trans k0, (hb1.cell (Nat.lt_of_lt_of_le hb k8.size)).trans k1, (hb1.cell (Nat.lt_of_lt_of_le hb k8.size)).trans k2, (hb1.cell (Nat.lt_of_lt_of_le hb k8.size)).trans k3, (hb1.cell (Nat.lt_of_lt_of_le hb k8.size)).trans k4, k8.trans (hb1.mono k8.size)⟩))
              refine wpAnyH_take (i := 0) (v := ?vq4_0) (by simp only [List.getElem?_toArray, List.getElem?_cons_zero]; rfl) (by kernel_rfl) (by kernel_rfl) (by kernel_rfl) (by exact fun _ _ _ h => h) (Or.inl ⟨by rfl, ?hq4_0⟩) hHeld ?rq4_0
              case hq4_0 => (intro w hSw; (try dsimp only at hSw); go_simp; (try with_reducible rfl))
              try simp only [put_laws]
              refine wpAnyH_take (i := 1) (v := ?vq4_1) (by simp only [List.getElem?_toArray, List.getElem?_cons_succ, List.getElem?_cons_zero]; rfl) (by kernel_rfl) (by kernel_rfl) (by kernel_rfl) (by exact fun _ _ _ h => h) (Or.inl ⟨by rfl, ?hq4_1⟩) hHeld ?rq4_1
              case hq4_1 => (intro w hSw; (try dsimp only at hSw); go_simp; (try with_reducible rfl))
              try simp only [put_laws]
              refine wpAnyH_take (i := 2) (v := ?vq4_2) (by simp only [List.getElem?_toArray, List.getElem?_cons_succ, List.getElem?_cons_zero]; rfl) (by kernel_rfl) (by kernel_rfl) (by kernel_rfl) (by exact fun _ _ _ h => h) (Or.inl ⟨by rfl, ?hq4_2⟩) hHeld ?rq4_2
              case hq4_2 => (intro w hSw; (try dsimp only at hSw); go_simp; (try with_reducible rfl))
              try simp only [put_laws]
              refine wpAnyH_take (i := 3) (v := ?vq4_3) (by simp only [List.getElem?_toArray, List.getElem?_cons_succ, List.getElem?_cons_zero]; rfl) (by kernel_rfl) (by kernel_rfl) (by kernel_rfl) (by exact fun _ _ _ h => h) (Or.inl ⟨by rfl, ?hq4_3⟩) hHeld ?rq4_3
              case hq4_3 => (intro w hSw; (try dsimp only at hSw); go_simp; (try with_reducible rfl))
              try simp only [put_laws]
              refine wpAnyH_take (i := 4) (v := ?vq4_4) (by simp only [List.getElem?_toArray, List.getElem?_cons_succ, List.getElem?_cons_zero]; rfl) (by kernel_rfl) (by kernel_rfl) (by kernel_rfl) (by exact fun _ _ _ h => h) (Or.inl ⟨by rfl, ?hq4_4⟩) hHeld ?rq4_4
              case hq4_4 => (intro w hSw; (try dsimp only at hSw); go_simp; (try with_reducible rfl))
              try simp only [put_laws]
              refine wpAnyH_take (i := 5) (v := ?vq4_5) (by simp only [List.getElem?_toArray, List.getElem?_cons_succ, List.getElem?_cons_zero]; rfl) (by kernel_rfl) (by kernel_rfl) (by kernel_rfl) (by exact fun _ _ _ h => h) (Or.inl ⟨by rfl, ?hq4_5⟩) hHeld ?rq4_5
              case hq4_5 => (intro w hSw; (try dsimp only at hSw); go_simp; (try with_reducible rfl))
              try simp only [put_laws]
              refine wpAnyH_take (i := 6) (v := ?vq4_6) (by simp only [List.getElem?_toArray, List.getElem?_cons_succ, List.getElem?_cons_zero]; rfl) (by kernel_rfl) (by kernel_rfl) (by kernel_rfl) (by exact fun _ _ _ h => h) (Or.inl ⟨by rfl, ?hq4_6⟩) hHeld ?rq4_6
              case hq4_6 => (intro w hSw; (try dsimp only at hSw); go_simp; (try with_reducible rfl))
              try simp only [put_laws]
              refine wpAnyH_take (i := 7) (v := ?vq4_7) (by simp only [List.getElem?_toArray, List.getElem?_cons_succ, List.getElem?_cons_zero]; rfl) (by kernel_rfl) (by kernel_rfl) (by kernel_rfl) (by exact fun _ _ _ h => h) (Or.inl ⟨by rfl, ?hq4_7⟩) hHeld ?rq4_7
              case hq4_7 => (intro w hSw; (try dsimp only at hSw); go_simp; (try with_reducible rfl))
              try simp only [put_laws]
              refine wpAnyH_take (i := 8) (v := ?vq4_8) (by simp only [List.getElem?_toArray, List.getElem?_cons_succ, List.getElem?_cons_zero]; rfl) (by kernel_rfl) (by kernel_rfl) (by kernel_rfl) (by exact fun _ _ _ h => h) (Or.inl ⟨by rfl, ?hq4_8⟩) hHeld ?rq4_8
              case hq4_8 => (intro w hSw; (try dsimp only at hSw); go_simp; (try with_reducible rfl))
              try simp only [put_laws]
              refine wpAnyH_take (i := 9) (v := ?vq4_9) (by simp only [List.getElem?_toArray, List.getElem?_cons_succ, List.getElem?_cons_zero]; rfl) (by kernel_rfl) (by kernel_rfl) (by kernel_rfl) (by exact fun _ _ _ h => h) (Or.inl ⟨by rfl, ?hq4_9⟩) hHeld ?rq4_9
              case hq4_9 => (intro w hSw; (try dsimp only at hSw); go_simp; (try with_reducible rfl))
              try simp only [put_laws]
              refine wpAnyH_take (i := 10) (v := ?vq4_10) (by simp only [List.getElem?_toArray, List.getElem?_cons_succ, List.getElem?_cons_zero]; rfl) (by kernel_rfl) (by kernel_rfl) (by kernel_rfl) (by exact fun _ _ _ h => h) (Or.inl ⟨by rfl, ?hq4_10⟩) hHeld ?rq4_10
              case hq4_10 => (intro w hSw; (try dsimp only at hSw); go_simp; (try with_reducible rfl))
              try simp only [put_laws]
              refine wpAnyH_take (i := 12) (v := ?vq4_12) (by simp only [List.getElem?_toArray, List.getElem?_cons_succ, List.getElem?_cons_zero]; rfl) (by kernel_rfl) (by kernel_rfl) (by kernel_rfl) (by exact fun _ _ _ h => h) (Or.inl ⟨by rfl, ?hq4_12⟩) hHeld ?rq4_12
              case hq4_12 => (intro w hSw; (try dsimp only at hSw); go_simp; (try with_reducible rfl))
              try simp only [put_laws]
              refine wpAnyH_take (i := 13) (v := ?vq4_13) (by simp only [List.getElem?_toArray, List.getElem?_cons_succ, List.getElem?_cons_zero]; rfl) (by kernel_rfl) (by kernel_rfl) (by kernel_rfl) (by exact fun _ _ _ h => h) (Or.inl ⟨by rfl, ?hq4_13⟩) hHeld ?rq4_13
              case hq4_13 => (intro w hSw; (try dsimp only at hSw); go_simp; (try with_reducible rfl))
              try simp only [put_laws]
              refine wpAnyH_take (i := 14) (v := ?vq4_14) (by simp only [List.getElem?_toArray, List.getElem?_cons_succ, List.getElem?_cons_zero]; rfl) (by kernel_rfl) (by kernel_rfl) (by kernel_rfl) (by exact fun _ _ _ h => h) (Or.inl ⟨by rfl, ?hq4_14⟩) hHeld ?rq4_14
              case hq4_14 => (intro w hSw; (try dsimp only at hSw); go_simp; (try with_reducible rfl))
              try simp only [put_laws]
              refine wpAnyH_take (i := 15) (v := ?vq4_15) (by simp only [List.getElem?_toArray, List.getElem?_cons_succ, List.getElem?_cons_zero]; rfl) (by kernel_rfl) (by kernel_rfl) (by kernel_rfl) (by exact fun _ _ _ h => h) (Or.inl ⟨by rfl, ?hq4_15⟩) hHeld ?rq4_15
              case hq4_15 => (intro w hSw; (try dsimp only at hSw); go_simp; (try with_reducible rfl))
              try simp only [put_laws]
              refine wpAnyH_ready (rs := [11]) (by kernel_rfl) (by simp) ?_
              refine AllReadyH.cons (by simp only [List.getElem?_toArray, List.getElem?_cons_succ, List.getElem?_cons_zero]; rfl) (fun K hK => ?_) AllReadyH.nil
              go_simp
              (refine (specPlacesFor_any x P m pc ps _ (by omega) (hpw.below hHeld.2.2.2.2.2)).mono ?_; rintro e w1 ⟨Q, qn, qc, rfl, hqn, Qo, hb1⟩; have qle : qn ≤ 6 := (by have := forL_short x ps; omega); clear hqn)
              refine hK.out _ _ ?_ (fun hHeld => ?_)
              · (try dsimp only); (first | exact ⟨hg0, hc0, hc1, hc2, hc3, (Below.refl _ _).drew⟩ | exact hHeld | (obtain ⟨k0, k1, k2, k3, k4, k8⟩ := hHeld; exact ⟨(hb1.cell (Nat.lt_of_lt_of_le hgb k8.size)).trans k0, (hb1.cell (Nat.lt_of_lt_of_le hb k8.size)).trans k1, (hb1.cell (Nat.lt_of_lt_of_le hb k8.size)).trans k2, (hb1.cell (Nat.lt_of_lt_of_le hb k8.size)).trans k3, (hb1.cell (Nat.lt_of_lt_of_le hb k8.size)).trans k4, k8.trans (hb1.mono k8.size)⟩))
              clear hK K
              try simp only [put_laws]
              refine wpAnyH_ready (rs := [16]) (by kernel_rfl) (by simp) ?_
              refine AllReadyH.cons (by simp only [List.getElem?_toArray, List.getElem?_cons_succ, List.getElem?_cons_zero]; rfl) (fun K hK => ?_) AllReadyH.nil
              go_simp
              (have QA : IntsAt _ Q qn (forL x ps) := Qo.slAt; (with_reducible refine (l1Has_yes Q qn qc (forL x ps) z _ (by omega) QA H1.out).mono ?_); rintro e w1 ⟨rfl, rfl⟩)
              refine hK.out _ _ ?_ (fun hHeld => ?_)
              · (try dsimp only); (first | exact ⟨hg0, hc0, hc1, hc2, hc3, (Below.refl _ _).drew⟩ | exact hHeld | (obtain ⟨k0, k1, k2, k3, k4, k8⟩ := hHeld; exact ⟨(hb1.cell (Nat.lt_of_lt_of_le hgb k8.size)).trans k0, (hb1.cell (Nat.lt_of_lt_of_le hb k8.size)).trans k1, (hb1.cell (Nat.lt_of_lt_of_le hb k8.size)).trans k2, (hb1.cell (Nat.lt_of_lt_of_le hb k8.size)).trans k3, (hb1.cell (Nat.lt_of_lt_of_le hb k8.size)).trans k4, k8.trans (hb1.mono k8.size)⟩))
              clear hK K
              try simp only [put_laws]
              refine wpAnyH_take (i := 17) (v := ?vq4_17) (by simp only [List.getElem?_toArray, List.getElem?_cons_succ, List.getElem?_cons_zero]; rfl) (by kernel_rfl) (by kernel_rfl) (by kernel_rfl) (by exact fun _ _ _ h => h) (Or.inl ⟨by rfl, ?hq4_17⟩) hHeld ?rq4_17
              case hq4_17 => (intro w hSw; (try dsimp only at hSw); go_simp; (try with_reducible rfl))
              try simp only [put_laws]
              refine wpAnyH_take (i := 18) (v := ?vq4_18) (by simp only [List.getElem?_toArray, List.getElem?_cons_succ, List.getElem?_cons_zero]; rfl) (by kernel_rfl) (by kernel_rfl) (by kernel_rfl) (by exact fun _ _ _ h => h) (Or.inl ⟨by rfl, ?hq4_18⟩) hHeld ?rq4_18
              case hq4_18 => (intro w hSw; (try dsimp only at hSw); go_simp; (try with_reducible rfl))
              try simp only [put_laws]
              refine wpAnyH_take (i := 19) (v := ?vq4_19) (by simp only [List.getElem?_toArray, List.getElem?_cons_succ, List.getElem?_cons_zero]; rfl) (by kernel_rfl) (by kernel_rfl) (by kernel_rfl) (by exact fun _ _ _ h => h) (Or.inl ⟨by rfl, ?hq4_19⟩) hHeld ?rq4_19
              case hq4_19 => (intro w hSw; (try dsimp only at hSw); go_simp; (try with_reducible rfl))
              try simp only [put_laws]
              refine wpAnyH_take (i := 20) (v := ?vq4_20) (by simp only [List.getElem?_toArray, List.getElem?_cons_succ, List.getElem?_cons_zero]; rfl) (by kernel_rfl) (by kernel_rfl) (by kernel_rfl) (by exact fun _ _ _ h => h) (Or.inl ⟨by rfl, ?hq4_20⟩) hHeld ?rq4_20
              case hq4_20 => (intro w hSw; (try dsimp only at hSw); go_simp; (try with_reducible rfl))
              try simp only [put_laws]
              refine wpAnyH_take (i := 21) (v := ?vq4_21) (by simp only [List.getElem?_toArray, List.getElem?_cons_succ, List.getElem?_cons_zero]; rfl) (by kernel_rfl) (by kernel_rfl) (by kernel_rfl) (by exact fun _ _ _ h => h) (Or.inl ⟨by rfl, ?hq4_21⟩) hHeld ?rq4_21
              case hq4_21 => (intro w hSw; (try dsimp only at hSw); go_simp; (try with_reducible rfl))
              try simp only [put_laws]
              refine wpAnyH_take (i := 22) (v := ?vq4_22) (by simp only [List.getElem?_toArray, List.getElem?_cons_succ, List.getElem?_cons_zero]; rfl) (by kernel_rfl) (by kernel_rfl) (by kernel_rfl) (by exact fun _ _ _ h => h) (Or.inl ⟨by rfl, ?hq4_22⟩) hHeld ?rq4_22
              case hq4_22 => (intro w hSw; (try dsimp only at hSw); go_simp; (try with_reducible rfl))
              try simp only [put_laws]
              refine wpAnyH_take (i := 23) (v := ?vq4_23) (by simp only [List.getElem?_toArray, List.getElem?_cons_succ, List.getElem?_cons_zero]; rfl) (by kernel_rfl) (by kernel_rfl) (by kernel_rfl) (by exact fun _ _ _ h => h) (Or.inl ⟨by rfl, ?hq4_23⟩) hHeld ?rq4_23
              case hq4_23 => (intro w hSw; (try dsimp only at hSw); go_simp; (try with_reducible rfl))
              try simp only [put_laws]
              refine wpAnyH_take (i := 24) (v := ?vq4_24) (by simp only [List.getElem?_toArray, List.getElem?_cons_succ, List.getElem?_cons_zero]; rfl) (by kernel_rfl) (by kernel_rfl) (by kernel_rfl) (by exact fun _ _ _ h => h) (Or.inl ⟨by rfl, ?hq4_24⟩) hHeld ?rq4_24
              case hq4_24 => (intro w hSw; (try dsimp only at hSw); go_simp; (try with_reducible rfl))
              try simp only [put_laws]
              refine wpAnyH_take (i := 25) (v := ?vq4_25) (by simp only [List.getElem?_toArray, List.getElem?_cons_succ, List.getElem?_cons_zero]; rfl) (by kernel_rfl) (by kernel_rfl) (by kernel_rfl) (by exact fun _ _ _ h => h) (Or.inl ⟨by rfl, ?hq4_25⟩) hHeld ?rq4_25
              case hq4_25 => (intro w hSw; (try dsimp only at hSw); go_simp; (try with_reducible rfl))
              try simp only [put_laws]
              refine wpAnyH_ready (rs := [26]) (by kernel_rfl) (by simp) ?_
              refine AllReadyH.cons (by simp only [List.getElem?_toArray, List.getElem?_cons_succ, List.getElem?_cons_zero]; rfl) (fun K hK => ?_) AllReadyH.nil
              go_simp
              ((with_reducible refine (l1Has_yes (some ⟨gb, goff, none⟩) k gc (g.take k) z _ (by omega) ((hgw.take (by omega)).below hHeld.2.2.2.2.2) H2.out).mono ?_); rintro e w1 ⟨rfl, rfl⟩)
              refine hK.out _ _ ?_ (fun hHeld => ?_)
              · (try dsimp only); (first | exact ⟨hg0, hc0, hc1, hc2, hc3, (Below.refl _ _).drew⟩ | exact hHeld | (obtain ⟨k0, k1, k2, k3, k4, k8⟩ := hHeld; exact ⟨(hb1.cell (Nat.lt_of_lt_of_le hgb k8.size)).trans k0, (hb1.cell (Nat.lt_of_lt_of_le hb k8.size)).trans k1, (hb1.cell (Nat.lt_of_lt_of_le hb k8.size)).trans k2, (hb1.cell (Nat.lt_of_lt_of_le hb k8.size)).trans k3, (hb1.cell (Nat.lt_of_lt_of_le hb k8.size)).trans k4, k8.trans (hb1.mono k8.size)⟩))
              clear hK K
              try simp only [put_laws]
              refine wpAnyH_take (i := 27) (v := ?vq4_27) (by simp only [List.getElem?_toArray, List.getElem?_cons_succ, List.getElem?_cons_zero]; rfl) (by kernel_rfl) (by kernel_rfl) (by kernel_rfl) (by exact fun _ _ _ h => h) (Or.inl ⟨by rfl, ?hq4_27⟩) hHeld ?rq4_27
              case hq4_27 => (intro w hSw; (try dsimp only at hSw); go_simp; (try with_reducible rfl))
              try simp only [put_laws]
              refine wpAnyH_take (i := 28) (v := ?vq4_28) (by simp only [List.getElem?_toArray, List.getElem?_cons_succ, List.getElem?_cons_zero]; rfl) (by kernel_rfl) (by kernel_rfl) (by kernel_rfl) (by exact fun _ _ _ h => h) (Or.inl ⟨by rfl, ?hq4_28⟩) hHeld ?rq4_28
              case hq4_28 => (intro w hSw; (try dsimp only at hSw); go_simp; (try with_reducible rfl))
              try simp only [put_laws]
              refine wpAnyH_done (by kernel_rfl) ?_ _
              have hbK := hHeld.2.2.2.2.2
              go_wp2
              go_ret
              refine ⟨ret_bool ?_, hbw.trans (hbK.mono hbw.size)⟩
              symm
              refine giveB_bad (k := k) (by have := HG.out; omega) ?_
              rw [HE.out]
              exact okZ_taken HZ1.out H2.out
      · go_wp2
        go_ret
        refine ⟨ret_bool ?_, hbw⟩
        symm
        have h1 := HG.out
        have h2 := HL.out
        exact giveB_all HC.out HP.out (by omega) (fun i hi => HOK.out i (by omega))
  · have hln' : ¬ (l : Int) = n := by omega
    have hlb : ((l : Int) != (n : Int)) = true := bne_iff_ne.2 hln'
    have hlb2 : (l != n) = true := by simpa using hln
    go_enter Tryd.func25, Tryd.ntmps25
    go_wp2_with fail
    refine (specCarsValid_any A n c cs _ HN.out hx).mono ?_; rintro e w1 ⟨rfl, hb1⟩
    go_wp2_with fail
    refine (specPlacesValid_any P m pc ps _ hm (hp.below hb1)).mono ?_; rintro e w2 ⟨rfl, hb2⟩
    go_wp2
    go_ret
    have h1 := HG.out
    have h2 := HL.out
    exact ⟨ret_bool (giveB_len (by omega)).symm, below_next hb1 hb2⟩

theorem fits_yes (x : C4) (y : P3) (w : World) (h : fitP x y = true) :
    Calls Tryd.prog 35 #[.agg #[.int .i64 x.f, .int .i64 x.t, .int .i64 x.r, .int .i64 x.u], .agg #[.int .i64 y.f, .int .i64 y.t, .int .i64 y.r]] w (RV w (.bool true)) := by rw [← h]; exact fits_any _ _ _ _ _ _ _ _
theorem fits_no (x : C4) (y : P3) (w : World) (h : fitP x y = false) :
    Calls Tryd.prog 35 #[.agg #[.int .i64 x.f, .int .i64 x.t, .int .i64 x.r, .int .i64 x.u], .agg #[.int .i64 y.f, .int .i64 y.t, .int .i64 y.r]] w (RV w (.bool false)) := by rw [← h]; exact fits_any _ _ _ _ _ _ _ _

set_option maxHeartbeats 4000000 in
theorem giveValid_any (A : Option Addr) (n c : Nat) (cs : List C4) (P : Option Addr) (m pc : Nat) (ps : List P3) (G : Option Addr) (l gc : Nat) (g : List Int) (w : World)
    (hn : n ≤ c ∧ c ≤ 9223372036854775807) (hx : CarsAt w A n cs) (hm : m ≤ 9223372036854775807) (hp : PlacesAt w P m ps) (hl : l ≤ gc ∧ gc ≤ 9223372036854775807) (hg : IntsAt w G l g) :
    Calls Tryd.prog 16 #[.slice A n c, .slice P m pc, .slice G l gc] w (RV w (.bool (giveB cs ps g))) := by
  have HL := Lib.hid hx.len
  have HG := Lib.hid hg.len
  have HM := Lib.hid hp.len
  have HN := Lib.hid hn
  obtain ⟨hnc, hcm⟩ := hn
  obtain ⟨hlc, hgm⟩ := hl
  cases hC : carsB cs
  · have HC := Lib.hid hC
    go_enter Tryd.func16, Tryd.ntmps16
    go_wp2_with fail
    refine (carsValid_any A n c cs _ HN.out hx).mono ?_; rintro e w1 ⟨rfl, hb1⟩
    go_wp2
    go_ret
    exact ⟨ret_bool (giveB_cars HC.out).symm, hb1⟩
  have HC := Lib.hid hC
  cases hP : placesB ps
  · have HP := Lib.hid hP
    go_enter Tryd.func16, Tryd.ntmps16
    go_wp2_with fail
    refine (carsValid_any A n c cs _ HN.out hx).mono ?_; rintro e w1 ⟨rfl, hb1⟩
    go_wp2_with fail
    refine (placesValid_any P m pc ps _ hm (hp.below hb1)).mono ?_; rintro e w2 ⟨rfl, hb2⟩
    go_wp2
    go_ret
    exact ⟨ret_bool (giveB_places HP.out).symm, below_next hb1 hb2⟩
  have HP := Lib.hid hP
  have hm6 : m ≤ 6 := by have := placesB_len HP.out; have := HM.out; omega
  by_cases hln : l = n
  · subst hln
    go_enter Tryd.func16, Tryd.ntmps16
    go_wp2_with fail
    refine (carsValid_any A l c cs _ HN.out hx).mono ?_; rintro e w1 ⟨rfl, hb1⟩
    go_wp2_with fail
    refine (placesValid_any P m pc ps _ hm (hp.below hb1)).mono ?_; rintro e w2 ⟨rfl, hb2⟩
    go_wp2
    clear hC hP
    have hb0 := below_next hb1 hb2
    clear hb1 hb2
    have hT0 : Whole (w2.alloc (.cells #[.bool false, .bool false, .bool false, .bool false, .bool false, .bool false] 49)) w2.heap.size 49 [.bool false, .bool false, .bool false, .bool false, .bool false, .bool false] := Whole.new w2 _ _
    have hb3 : Below w2.heap.size w2 (w2.alloc (.cells #[.bool false, .bool false, .bool false, .bool false, .bool false, .bool false] 49)) := (Below.refl _ _).alloc (Nat.le_refl _) _
    obtain ⟨L, HLo⟩ : ∃ L, Hid (L = w2.heap.size) := ⟨_, rfl⟩
    rw [← HLo.out] at hT0 ⊢
    go_loopw [27] (fun i wr => ∃ k : Nat, k ≤ l ∧ i = .int .i64 k ∧ (∀ i, i < k → okAt cs ps g i = true) ∧ Whole wr L 49 (takenL g k) ∧ Below w2.heap.size w2 wr) (fun i _ => l - (intOf i).toNat)
    case atStart => exact ⟨0, Nat.zero_le _, rfl, fun i h => by omega, by rw [takenL_zero]; exact hT0, hb3⟩
    case round =>
      obtain ⟨k, hk, rfl, hok, hW, hbw⟩ := hrel
      have HOK := Lib.hid hok
      clear hok hT0 hb3
      have hbw2 := hb0.trans (hbw.mono hb0.size)
      by_cases hlt : k < l
      · have hpw := hp.below hbw2
        have hgw := hg.below hbw2
        obtain ⟨x, b, off, HX, rfl, hb, hc0, hc1, hc2, hc3⟩ := (hx.below hbw2).get hlt
        obtain ⟨z, gb, goff, HZ, rfl, hgb, hg0⟩ := hgw.get hlt
        have hk0 : (0 : Int) ≤ (k : Int) := by omega
        have hk1 : (k : Int) < (l : Int) := by omega
        have HE := Lib.hid (okAt_get (ps := ps) HZ HX)
        have hLr := hW.lt
        by_cases hz1 : z = -1
        · subst hz1
          go_wp2
          go_roundw
          case rel => exact ⟨k + 1, by omega, by go_num, okAt_next HOK.out (by rw [HE.out]; exact okZ_none _ _ _), by rw [takenL_none HZ (by omega)]; exact hW, hbw⟩
          case measure => simp [intOf]; omega
        · have HZ1 := Lib.hid hz1
          by_cases hz0 : z < 0
          · have hzd : decide (z < 0) = true := by simpa using hz0
            go_wp2
            refine wp_region_held_drew (S := (fun w' => w'.cell? ⟨gb, goff + k, none⟩ = some (.int .i64 z) ∧ w'.cell? ⟨b, off + k * 4, none⟩ = some (.int .i64 x.f) ∧ w'.cell? ⟨b, off + k * 4 + 1, none⟩ = some (.int .i64 x.t) ∧ w'.cell? ⟨b, off + k * 4 + 2, none⟩ = some (.int .i64 x.r) ∧ w'.cell? ⟨b, off + k * 4 + 3, none⟩ = some (.int .i64 x.u) ∧ Below wr.heap.size wr w')) (by kernel_rfl) ?_ (fun hHeld => ?_)
            · (try dsimp only); (first | exact ⟨hg0, hc0, hc1, hc2, hc3, (Below.refl _ _).drew⟩)
            refine wpAnyH_take (i := 0) (v := ?vq5_0) (by simp only [List.getElem?_toArray, List.getElem?_cons_zero]; rfl) (by kernel_rfl) (by kernel_rfl) (by kernel_rfl) (by exact fun _ _ _ h => h) (Or.inl ⟨by rfl, ?hq5_0⟩) hHeld ?rq5_0
            case hq5_0 => (intro w hSw; (try dsimp only at hSw); go_simp; (try with_reducible rfl))
            try simp only [put_laws]
            refine wpAnyH_take (i := 1) (v := ?vq5_1) (by simp only [List.getElem?_toArray, List.getElem?_cons_succ, List.getElem?_cons_zero]; rfl) (by kernel_rfl) (by kernel_rfl) (by kernel_rfl) (by exact fun _ _ _ h => h) (Or.inl ⟨by rfl, ?hq5_1⟩) hHeld ?rq5_1
            case hq5_1 => (intro w hSw; (try dsimp only at hSw); go_simp; (try with_reducible rfl))
            try simp only [put_laws]
            refine wpAnyH_take (i := 2) (v := ?vq5_2) (by simp only [List.getElem?_toArray, List.getElem?_cons_succ, List.getElem?_cons_zero]; rfl) (by kernel_rfl) (by kernel_rfl) (by kernel_rfl) (by exact fun _ _ _ h => h) (Or.inl ⟨by rfl, ?hq5_2⟩) hHeld ?rq5_2
            case hq5_2 => (intro w hSw; (try dsimp only at hSw); go_simp; (try with_reducible rfl))
            try simp only [put_laws]
            refine wpAnyH_take (i := 3) (v := undef) (by simp only [List.getElem?_toArray, List.getElem?_cons_succ, List.getElem?_cons_zero]; rfl) (by kernel_rfl) (by kernel_rfl) (by kernel_rfl) (by exact fun _ _ _ h => h) (Or.inr ⟨by rfl, rfl⟩) hHeld ?_
            try simp only [put_laws]
            refine wpAnyH_take (i := 4) (v := undef) (by simp only [List.getElem?_toArray, List.getElem?_cons_succ, List.getElem?_cons_zero]; rfl) (by kernel_rfl) (by kernel_rfl) (by kernel_rfl) (by exact fun _ _ _ h => h) (Or.inr ⟨by rfl, rfl⟩) hHeld ?_
            try simp only [put_laws]
            refine wpAnyH_take (i := 5) (v := undef) (by simp only [List.getElem?_toArray, List.getElem?_cons_succ, List.getElem?_cons_zero]; rfl) (by kernel_rfl) (by kernel_rfl) (by kernel_rfl) (by exact fun _ _ _ h => h) (Or.inr ⟨by rfl, rfl⟩) hHeld ?_
            try simp only [put_laws]
            refine wpAnyH_take (i := 6) (v := undef) (by simp only [List.getElem?_toArray, List.getElem?_cons_succ, List.getElem?_cons_zero]; rfl) (by kernel_rfl) (by kernel_rfl) (by kernel_rfl) (by exact fun _ _ _ h => h) (Or.inr ⟨by rfl, rfl⟩) hHeld ?_
            try simp only [put_laws]
            refine wpAnyH_take (i := 7) (v := ?vq5_7) (by simp only [List.getElem?_toArray, List.getElem?_cons_succ, List.getElem?_cons_zero]; rfl) (by kernel_rfl) (by kernel_rfl) (by kernel_rfl) (by exact fun _ _ _ h => h) (Or.inl ⟨by rfl, ?hq5_7⟩) hHeld ?rq5_7
            case hq5_7 => (intro w hSw; (try dsimp only at hSw); go_simp; (try with_reducible rfl))
            try simp only [put_laws]
            refine wpAnyH_take (i := 8) (v := ?vq5_8) (by simp only [List.getElem?_toArray, List.getElem?_cons_succ, List.getElem?_cons_zero]; rfl) (by kernel_rfl) (by kernel_rfl) (by kernel_rfl) (by exact fun _ _ _ h => h) (Or.inl ⟨by rfl, ?hq5_8⟩) hHeld ?rq5_8
            case hq5_8 => (intro w hSw; (try dsimp only at hSw); go_simp; (try with_reducible rfl))
            try simp only [put_laws]
            refine wpAnyH_take (i := 9) (v := undef) (by simp only [List.getElem?_toArray, List.getElem?_cons_succ, List.getElem?_cons_zero]; rfl) (by kernel_rfl) (by kernel_rfl) (by kernel_rfl) (by exact fun _ _ _ h => h) (Or.inr ⟨by rfl, rfl⟩) hHeld ?_
            try simp only [put_laws]
            refine wpAnyH_take (i := 10) (v := undef) (by simp only [List.getElem?_toArray, List.getElem?_cons_succ, List.getElem?_cons_zero]; rfl) (by kernel_rfl) (by kernel_rfl) (by kernel_rfl) (by exact fun _ _ _ h => h) (Or.inr ⟨by rfl, rfl⟩) hHeld ?_
            try simp only [put_laws]
            refine wpAnyH_take (i := 11) (v := undef) (by simp only [List.getElem?_toArray, List.getElem?_cons_succ, List.getElem?_cons_zero]; rfl) (by kernel_rfl) (by kernel_rfl) (by kernel_rfl) (by exact fun _ _ _ h => h) (Or.inr ⟨by rfl, rfl⟩) hHeld ?_
            try simp only [put_laws]
            refine wpAnyH_take (i := 12) (v := ?vq5_12) (by simp only [List.getElem?_toArray, List.getElem?_cons_succ, List.getElem?_cons_zero]; rfl) (by kernel_rfl) (by kernel_rfl) (by kernel_rfl) (by exact fun _ _ _ h => h) (Or.inl ⟨by rfl, ?hq5_12⟩) hHeld ?rq5_12
            case hq5_12 => (intro w hSw; (try dsimp only at hSw); go_simp; (try with_reducible rfl))
            try simp only [put_laws]
            refine wpAnyH_take (i := 13) (v := ?vq5_13) (by simp only [List.getElem?_toArray, List.getElem?_cons_succ, List.getElem?_cons_zero]; rfl) (by kernel_rfl) (by kernel_rfl) (by kernel_rfl) (by exact fun _ _ _ h => h) (Or.inl ⟨by rfl, ?hq5_13⟩) hHeld ?rq5_13
            case hq5_13 => (intro w hSw; (try dsimp only at hSw); go_simp; (try with_reducible rfl))
            try simp only [put_laws]
            refine wpAnyH_take (i := 14) (v := undef) (by simp only [List.getElem?_toArray, List.getElem?_cons_succ, List.getElem?_cons_zero]; rfl) (by kernel_rfl) (by kernel_rfl) (by kernel_rfl) (by exact fun _ _ _ h => h) (Or.inr ⟨by rfl, rfl⟩) hHeld ?_
            try simp only [put_laws]
            refine wpAnyH_take (i := 15) (v := undef) (by simp only [List.getElem?_toArray, List.getElem?_cons_succ, List.getElem?_cons_zero]; rfl) (by kernel_rfl) (by kernel_rfl) (by kernel_rfl) (by exact fun _ _ _ h => h) (Or.inr ⟨by rfl, rfl⟩) hHeld ?_
            try simp only [put_laws]
            refine wpAnyH_take (i := 16) (v := undef) (by simp only [List.getElem?_toArray, List.getElem?_cons_succ, List.getElem?_cons_zero]; rfl) (by kernel_rfl) (by kernel_rfl) (by kernel_rfl) (by exact fun _ _ _ h => h) (Or.inr ⟨by rfl, rfl⟩) hHeld ?_
            try simp only [put_laws]
            refine wpAnyH_take (i := 17) (v := undef) (by simp only [List.getElem?_toArray, List.getElem?_cons_succ, List.getElem?_cons_zero]; rfl) (by kernel_rfl) (by kernel_rfl) (by kernel_rfl) (by exact fun _ _ _ h => h) (Or.inr ⟨by rfl, rfl⟩) hHeld ?_
            try simp only [put_laws]
            refine wpAnyH_take (i := 18) (v := undef) (by simp only [List.getElem?_toArray, List.getElem?_cons_succ, List.getElem?_cons_zero]; rfl) (by kernel_rfl) (by kernel_rfl) (by kernel_rfl) (by exact fun _ _ _ h => h) (Or.inr ⟨by rfl, rfl⟩) hHeld ?_
            try simp only [put_laws]
            refine wpAnyH_take (i := 19) (v := undef) (by simp only [List.getElem?_toArray, List.getElem?_cons_succ, List.getElem?_cons_zero]; rfl) (by kernel_rfl) (by kernel_rfl) (by kernel_rfl) (by exact fun _ _ _ h => h) (Or.inr ⟨by rfl, rfl⟩) hHeld ?_
            try simp only [put_laws]
            refine wpAnyH_take (i := 20) (v := undef) (by simp only [List.getElem?_toArray, List.getElem?_cons_succ, List.getElem?_cons_zero]; rfl) (by kernel_rfl) (by kernel_rfl) (by kernel_rfl) (by exact fun _ _ _ h => h) (Or.inr ⟨by rfl, rfl⟩) hHeld ?_
            try simp only [put_laws]
            refine wpAnyH_take (i := 21) (v := undef) (by simp only [List.getElem?_toArray, List.getElem?_cons_succ, List.getElem?_cons_zero]; rfl) (by kernel_rfl) (by kernel_rfl) (by kernel_rfl) (by exact fun _ _ _ h => h) (Or.inr ⟨by rfl, rfl⟩) hHeld ?_
            try simp only [put_laws]
            refine wpAnyH_take (i := 22) (v := undef) (by simp only [List.getElem?_toArray, List.getElem?_cons_succ, List.getElem?_cons_zero]; rfl) (by kernel_rfl) (by kernel_rfl) (by kernel_rfl) (by exact fun _ _ _ h => h) (Or.inr ⟨by rfl, rfl⟩) hHeld ?_
            try simp only [put_laws]
            refine wpAnyH_take (i := 23) (v := undef) (by simp only [List.getElem?_toArray, List.getElem?_cons_succ, List.getElem?_cons_zero]; rfl) (by kernel_rfl) (by kernel_rfl) (by kernel_rfl) (by exact fun _ _ _ h => h) (Or.inr ⟨by rfl, rfl⟩) hHeld ?_
            try simp only [put_laws]
            refine wpAnyH_take (i := 24) (v := ?vq5_24) (by simp only [List.getElem?_toArray, List.getElem?_cons_succ, List.getElem?_cons_zero]; rfl) (by kernel_rfl) (by kernel_rfl) (by kernel_rfl) (by exact fun _ _ _ h => h) (Or.inl ⟨by rfl, ?hq5_24⟩) hHeld ?rq5_24
            case hq5_24 => (intro w hSw; (try dsimp only at hSw); go_simp; (try with_reducible rfl))
            try simp only [put_laws]
            refine wpAnyH_done (by kernel_rfl) ?_ _
            have hbK := hHeld.2.2.2.2.2
            go_wp2
            go_ret
            refine ⟨ret_bool ?_, hbw2.trans (hbK.mono hbw2.size)⟩
            symm
            refine giveB_bad (k := k) (by have := HG.out; omega) ?_
            rw [HE.out]
            exact okZ_neg HZ1.out hz0
          · have hzd : decide (z < 0) = false := by simpa using hz0
            by_cases hzm : (m : Int) ≤ z
            · go_wp2
              refine wp_region_held_drew (S := (fun w' => w'.cell? ⟨gb, goff + k, none⟩ = some (.int .i64 z) ∧ w'.cell? ⟨b, off + k * 4, none⟩ = some (.int .i64 x.f) ∧ w'.cell? ⟨b, off + k * 4 + 1, none⟩ = some (.int .i64 x.t) ∧ w'.cell? ⟨b, off + k * 4 + 2, none⟩ = some (.int .i64 x.r) ∧ w'.cell? ⟨b, off + k * 4 + 3, none⟩ = some (.int .i64 x.u) ∧ Below wr.heap.size wr w')) (by kernel_rfl) ?_ (fun hHeld => ?_)
              · (try dsimp only); (first | exact ⟨hg0, hc0, hc1, hc2, hc3, (Below.refl _ _).drew⟩)
              refine wpAnyH_take (i := 0) (v := ?vq6_0) (by simp only [List.getElem?_toArray, List.getElem?_cons_zero]; rfl) (by kernel_rfl) (by kernel_rfl) (by kernel_rfl) (by exact fun _ _ _ h => h) (Or.inl ⟨by rfl, ?hq6_0⟩) hHeld ?rq6_0
              case hq6_0 => (intro w hSw; (try dsimp only at hSw); go_simp; (try with_reducible rfl))
              try simp only [put_laws]
              refine wpAnyH_take (i := 1) (v := ?vq6_1) (by simp only [List.getElem?_toArray, List.getElem?_cons_succ, List.getElem?_cons_zero]; rfl) (by kernel_rfl) (by kernel_rfl) (by kernel_rfl) (by exact fun _ _ _ h => h) (Or.inl ⟨by rfl, ?hq6_1⟩) hHeld ?rq6_1
              case hq6_1 => (intro w hSw; (try dsimp only at hSw); go_simp; (try with_reducible rfl))
              try simp only [put_laws]
              refine wpAnyH_take (i := 2) (v := ?vq6_2) (by simp only [List.getElem?_toArray, List.getElem?_cons_succ, List.getElem?_cons_zero]; rfl) (by kernel_rfl) (by kernel_rfl) (by kernel_rfl) (by exact fun _ _ _ h => h) (Or.inl ⟨by rfl, ?hq6_2⟩) hHeld ?rq6_2
              case hq6_2 => (intro w hSw; (try dsimp only at hSw); go_simp; (try with_reducible rfl))
              try simp only [put_laws]
              refine wpAnyH_take (i := 3) (v := ?vq6_3) (by simp only [List.getElem?_toArray, List.getElem?_cons_succ, List.getElem?_cons_zero]; rfl) (by kernel_rfl) (by kernel_rfl) (by kernel_rfl) (by exact fun _ _ _ h => h) (Or.inl ⟨by rfl, ?hq6_3⟩) hHeld ?rq6_3
              case hq6_3 => (intro w hSw; (try dsimp only at hSw); go_simp; (try with_reducible rfl))
              try simp only [put_laws]
              refine wpAnyH_take (i := 4) (v := ?vq6_4) (by simp only [List.getElem?_toArray, List.getElem?_cons_succ, List.getElem?_cons_zero]; rfl) (by kernel_rfl) (by kernel_rfl) (by kernel_rfl) (by exact fun _ _ _ h => h) (Or.inl ⟨by rfl, ?hq6_4⟩) hHeld ?rq6_4
              case hq6_4 => (intro w hSw; (try dsimp only at hSw); go_simp; (try with_reducible rfl))
              try simp only [put_laws]
              refine wpAnyH_take (i := 5) (v := ?vq6_5) (by simp only [List.getElem?_toArray, List.getElem?_cons_succ, List.getElem?_cons_zero]; rfl) (by kernel_rfl) (by kernel_rfl) (by kernel_rfl) (by exact fun _ _ _ h => h) (Or.inl ⟨by rfl, ?hq6_5⟩) hHeld ?rq6_5
              case hq6_5 => (intro w hSw; (try dsimp only at hSw); go_simp; (try with_reducible rfl))
              try simp only [put_laws]
              refine wpAnyH_take (i := 6) (v := ?vq6_6) (by simp only [List.getElem?_toArray, List.getElem?_cons_succ, List.getElem?_cons_zero]; rfl) (by kernel_rfl) (by kernel_rfl) (by kernel_rfl) (by exact fun _ _ _ h => h) (Or.inl ⟨by rfl, ?hq6_6⟩) hHeld ?rq6_6
              case hq6_6 => (intro w hSw; (try dsimp only at hSw); go_simp; (try with_reducible rfl))
              try simp only [put_laws]
              refine wpAnyH_take (i := 7) (v := ?vq6_7) (by simp only [List.getElem?_toArray, List.getElem?_cons_succ, List.getElem?_cons_zero]; rfl) (by kernel_rfl) (by kernel_rfl) (by kernel_rfl) (by exact fun _ _ _ h => h) (Or.inl ⟨by rfl, ?hq6_7⟩) hHeld ?rq6_7
              case hq6_7 => (intro w hSw; (try dsimp only at hSw); go_simp; (try with_reducible rfl))
              try simp only [put_laws]
              refine wpAnyH_take (i := 8) (v := ?vq6_8) (by simp only [List.getElem?_toArray, List.getElem?_cons_succ, List.getElem?_cons_zero]; rfl) (by kernel_rfl) (by kernel_rfl) (by kernel_rfl) (by exact fun _ _ _ h => h) (Or.inl ⟨by rfl, ?hq6_8⟩) hHeld ?rq6_8
              case hq6_8 => (intro w hSw; (try dsimp only at hSw); go_simp; (try with_reducible rfl))
              try simp only [put_laws]
              refine wpAnyH_take (i := 9) (v := undef) (by simp only [List.getElem?_toArray, List.getElem?_cons_succ, List.getElem?_cons_zero]; rfl) (by kernel_rfl) (by kernel_rfl) (by kernel_rfl) (by exact fun _ _ _ h => h) (Or.inr ⟨by rfl, rfl⟩) hHeld ?_
              try simp only [put_laws]
              refine wpAnyH_take (i := 10) (v := undef) (by simp only [List.getElem?_toArray, List.getElem?_cons_succ, List.getElem?_cons_zero]; rfl) (by kernel_rfl) (by kernel_rfl) (by kernel_rfl) (by exact fun _ _ _ h => h) (Or.inr ⟨by rfl, rfl⟩) hHeld ?_
              try simp only [put_laws]
              refine wpAnyH_take (i := 11) (v := undef) (by simp only [List.getElem?_toArray, List.getElem?_cons_succ, List.getElem?_cons_zero]; rfl) (by kernel_rfl) (by kernel_rfl) (by kernel_rfl) (by exact fun _ _ _ h => h) (Or.inr ⟨by rfl, rfl⟩) hHeld ?_
              try simp only [put_laws]
              refine wpAnyH_take (i := 12) (v := ?vq6_12) (by simp only [List.getElem?_toArray, List.getElem?_cons_succ, List.getElem?_cons_zero]; rfl) (by kernel_rfl) (by kernel_rfl) (by kernel_rfl) (by exact fun _ _ _ h => h) (Or.inl ⟨by rfl, ?hq6_12⟩) hHeld ?rq6_12
              case hq6_12 => (intro w hSw; (try dsimp only at hSw); go_simp; (try with_reducible rfl))
              try simp only [put_laws]
              refine wpAnyH_take (i := 13) (v := ?vq6_13) (by simp only [List.getElem?_toArray, List.getElem?_cons_succ, List.getElem?_cons_zero]; rfl) (by kernel_rfl) (by kernel_rfl) (by kernel_rfl) (by exact fun _ _ _ h => h) (Or.inl ⟨by rfl, ?hq6_13⟩) hHeld ?rq6_13
              case hq6_13 => (intro w hSw; (try dsimp only at hSw); go_simp; (try with_reducible rfl))
              try simp only [put_laws]
              refine wpAnyH_take (i := 14) (v := undef) (by simp only [List.getElem?_toArray, List.getElem?_cons_succ, List.getElem?_cons_zero]; rfl) (by kernel_rfl) (by kernel_rfl) (by kernel_rfl) (by exact fun _ _ _ h => h) (Or.inr ⟨by rfl, rfl⟩) hHeld ?_
              try simp only [put_laws]
              refine wpAnyH_take (i := 15) (v := undef) (by simp only [List.getElem?_toArray, List.getElem?_cons_succ, List.getElem?_cons_zero]; rfl) (by kernel_rfl) (by kernel_rfl) (by kernel_rfl) (by exact fun _ _ _ h => h) (Or.inr ⟨by rfl, rfl⟩) hHeld ?_
              try simp only [put_laws]
              refine wpAnyH_take (i := 16) (v := undef) (by simp only [List.getElem?_toArray, List.getElem?_cons_succ, List.getElem?_cons_zero]; rfl) (by kernel_rfl) (by kernel_rfl) (by kernel_rfl) (by exact fun _ _ _ h => h) (Or.inr ⟨by rfl, rfl⟩) hHeld ?_
              try simp only [put_laws]
              refine wpAnyH_take (i := 17) (v := undef) (by simp only [List.getElem?_toArray, List.getElem?_cons_succ, List.getElem?_cons_zero]; rfl) (by kernel_rfl) (by kernel_rfl) (by kernel_rfl) (by exact fun _ _ _ h => h) (Or.inr ⟨by rfl, rfl⟩) hHeld ?_
              try simp only [put_laws]
              refine wpAnyH_take (i := 18) (v := undef) (by simp only [List.getElem?_toArray, List.getElem?_cons_succ, List.getElem?_cons_zero]; rfl) (by kernel_rfl) (by kernel_rfl) (by kernel_rfl) (by exact fun _ _ _ h => h) (Or.inr ⟨by rfl, rfl⟩) hHeld ?_
              try simp only [put_laws]
              refine wpAnyH_take (i := 19) (v := undef) (by simp only [List.getElem?_toArray, List.getElem?_cons_succ, List.getElem?_cons_zero]; rfl) (by kernel_rfl) (by kernel_rfl) (by kernel_rfl) (by exact fun _ _ _ h => h) (Or.inr ⟨by rfl, rfl⟩) hHeld ?_
              try simp only [put_laws]
              refine wpAnyH_take (i := 20) (v := undef) (by simp only [List.getElem?_toArray, List.getElem?_cons_succ, List.getElem?_cons_zero]; rfl) (by kernel_rfl) (by kernel_rfl) (by kernel_rfl) (by exact fun _ _ _ h => h) (Or.inr ⟨by rfl, rfl⟩) hHeld ?_
              try simp only [put_laws]
              refine wpAnyH_take (i := 21) (v := undef) (by simp only [List.getElem?_toArray, List.getElem?_cons_succ, List.getElem?_cons_zero]; rfl) (by kernel_rfl) (by kernel_rfl) (by kernel_rfl) (by exact fun _ _ _ h => h) (Or.inr ⟨by rfl, rfl⟩) hHeld ?_
              try simp only [put_laws]
              refine wpAnyH_take (i := 22) (v := undef) (by simp only [List.getElem?_toArray, List.getElem?_cons_succ, List.getElem?_cons_zero]; rfl) (by kernel_rfl) (by kernel_rfl) (by kernel_rfl) (by exact fun _ _ _ h => h) (Or.inr ⟨by rfl, rfl⟩) hHeld ?_
              try simp only [put_laws]
              refine wpAnyH_take (i := 23) (v := undef) (by simp only [List.getElem?_toArray, List.getElem?_cons_succ, List.getElem?_cons_zero]; rfl) (by kernel_rfl) (by kernel_rfl) (by kernel_rfl) (by exact fun _ _ _ h => h) (Or.inr ⟨by rfl, rfl⟩) hHeld ?_
              try simp only [put_laws]
              refine wpAnyH_take (i := 24) (v := ?vq6_24) (by simp only [List.getElem?_toArray, List.getElem?_cons_succ, List.getElem?_cons_zero]; rfl) (by kernel_rfl) (by kernel_rfl) (by kernel_rfl) (by exact fun _ _ _ h => h) (Or.inl ⟨by rfl, ?hq6_24⟩) hHeld ?rq6_24
              case hq6_24 => (intro w hSw; (try dsimp only at hSw); go_simp; (try with_reducible rfl))
              try simp only [put_laws]
              refine wpAnyH_done (by kernel_rfl) ?_ _
              have hbK := hHeld.2.2.2.2.2
              go_wp2
              go_ret
              refine ⟨ret_bool ?_, hbw2.trans (hbK.mono hbw2.size)⟩
              symm
              refine giveB_bad (k := k) (by have := HG.out; omega) ?_
              rw [HE.out]
              exact okZ_far HM.out HZ1.out hzm
            · obtain ⟨p, rfl⟩ : ∃ p : Nat, z = p := ⟨z.toNat, by omega⟩
              have hpm : p < m := by omega
              obtain ⟨y, qb, qoff, HY, rfl, hqb, hd0, hd1, hd2⟩ := hpw.get hpm
              have hT' := hW.cell p
              rw [takenL_get g k (by omega)] at hT'
              have hp0 : (0 : Int) ≤ (p : Int) := by omega
              have hp1 : (p : Int) < 6 := by omega
              have hp2 : (p : Int) < (m : Int) := by omega
              cases htk : (g.take k).contains (p : Int)
              · have hT : wr.cell? ⟨L, p, none⟩ = some (.bool false) := by rw [htk] at hT'; exact hT'
                have HTK := Lib.hid htk
                clear htk hT' hzd hz0 hzm hz1
                have HE2 := Lib.hid (okZ_fit (x := x) (prev := g.take k) rfl HY HTK.out)
                cases hf : fitP x y
                · have hfit := Lib.hid hf
                  clear hf
                  have hzq : ((p : Int) == -1) = false := by simp
                  have hzd2 : decide ((p : Int) < 0) = false := by simp
                  have hzm2 : decide (m ≤ p) = false := by simp; omega
                  go_wp2
                  refine wp_region_held_drew (S := (fun w' => w'.cell? ⟨L, p, none⟩ = some (.bool false) ∧ w'.cell? ⟨b, off + k * 4, none⟩ = some (.int .i64 x.f) ∧ w'.cell? ⟨b, off + k * 4 + 1, none⟩ = some (.int .i64 x.t) ∧ w'.cell? ⟨b, off + k * 4 + 2, none⟩ = some (.int .i64 x.r) ∧ w'.cell? ⟨b, off + k * 4 + 3, none⟩ = some (.int .i64 x.u) ∧ w'.cell? ⟨qb, qoff + p * 3, none⟩ = some (.int .i64 y.f) ∧ w'.cell? ⟨qb, qoff + p * 3 + 1, none⟩ = some (.int .i64 y.t) ∧ w'.cell? ⟨qb, qoff + p * 3 + 2, none⟩ = some (.int .i64 y.r) ∧ Below wr.heap.size wr w')) (by kernel_rfl) ?_ (fun hHeld => ?_)
                  · (try dsimp only); (first | exact ⟨hT, hc0, hc1, hc2, hc3, hd0, hd1, hd2, (Below.refl _ _).drew⟩ | (obtain ⟨k0, k1, k2, k3, k4, k5, k6, k7, k8⟩ := hHeld; exact ⟨(hb1.cell (Nat.lt_of_lt_of_le hLr k8.size)).trans k0, (hb1.cell (Nat.lt_of_lt_of_le hb k8.size)).trans k1, (hb1.cell (Nat.lt_of_lt_of_le hb k8.size)).trans k2, (hb1.cell (Nat.lt_of_lt_of_le hb k8.size)).trans k3, (hb1.cell (Nat.lt_of_lt_of_le hb k8.size)).trans k4, (hb1.cell (Nat.lt_of_lt_of_le hqb k8.size)).trans k5, (hb1.cell (Nat.lt_of_lt_of_le hqb k8.size)).trans k6, (hb1.cell (Nat.lt_of_lt_of_le hqb k8.size)).trans k7, k8.trans (hb1.mono k8.size)⟩))
                  refine wpAnyH_take (i := 0) (v := ?vq7_0) (by simp only [List.getElem?_toArray, List.getElem?_cons_zero]; rfl) (by kernel_rfl) (by kernel_rfl) (by kernel_rfl) (by exact fun _ _ _ h => h) (Or.inl ⟨by rfl, ?hq7_0⟩) hHeld ?rq7_0
                  case hq7_0 => (intro w hSw; (try dsimp only at hSw); go_simp; (try with_reducible rfl))
                  try simp only [put_laws]
                  refine wpAnyH_take (i := 1) (v := ?vq7_1) (by simp only [List.getElem?_toArray, List.getElem?_cons_succ, List.getElem?_cons_zero]; rfl) (by kernel_rfl) (by kernel_rfl) (by kernel_rfl) (by exact fun _ _ _ h => h) (Or.inl ⟨by rfl, ?hq7_1⟩) hHeld ?rq7_1
                  case hq7_1 => (intro w hSw; (try dsimp only at hSw); go_simp; (try with_reducible rfl))
                  try simp only [put_laws]
                  refine wpAnyH_take (i := 2) (v := ?vq7_2) (by simp only [List.getElem?_toArray, List.getElem?_cons_succ, List.getElem?_cons_zero]; rfl) (by kernel_rfl) (by kernel_rfl) (by kernel_rfl) (by exact fun _ _ _ h => h) (Or.inl ⟨by rfl, ?hq7_2⟩) hHeld ?rq7_2
                  case hq7_2 => (intro w hSw; (try dsimp only at hSw); go_simp; (try with_reducible rfl))
                  try simp only [put_laws]
                  refine wpAnyH_take (i := 3) (v := ?vq7_3) (by simp only [List.getElem?_toArray, List.getElem?_cons_succ, List.getElem?_cons_zero]; rfl) (by kernel_rfl) (by kernel_rfl) (by kernel_rfl) (by exact fun _ _ _ h => h) (Or.inl ⟨by rfl, ?hq7_3⟩) hHeld ?rq7_3
                  case hq7_3 => (intro w hSw; (try dsimp only at hSw); go_simp; (try with_reducible rfl))
                  try simp only [put_laws]
                  refine wpAnyH_take (i := 4) (v := ?vq7_4) (by simp only [List.getElem?_toArray, List.getElem?_cons_succ, List.getElem?_cons_zero]; rfl) (by kernel_rfl) (by kernel_rfl) (by kernel_rfl) (by exact fun _ _ _ h => h) (Or.inl ⟨by rfl, ?hq7_4⟩) hHeld ?rq7_4
                  case hq7_4 => (intro w hSw; (try dsimp only at hSw); go_simp; (try with_reducible rfl))
                  try simp only [put_laws]
                  refine wpAnyH_take (i := 5) (v := ?vq7_5) (by simp only [List.getElem?_toArray, List.getElem?_cons_succ, List.getElem?_cons_zero]; rfl) (by kernel_rfl) (by kernel_rfl) (by kernel_rfl) (by exact fun _ _ _ h => h) (Or.inl ⟨by rfl, ?hq7_5⟩) hHeld ?rq7_5
                  case hq7_5 => (intro w hSw; (try dsimp only at hSw); go_simp; (try with_reducible rfl))
                  try simp only [put_laws]
                  refine wpAnyH_take (i := 6) (v := ?vq7_6) (by simp only [List.getElem?_toArray, List.getElem?_cons_succ, List.getElem?_cons_zero]; rfl) (by kernel_rfl) (by kernel_rfl) (by kernel_rfl) (by exact fun _ _ _ h => h) (Or.inl ⟨by rfl, ?hq7_6⟩) hHeld ?rq7_6
                  case hq7_6 => (intro w hSw; (try dsimp only at hSw); go_simp; (try with_reducible rfl))
                  try simp only [put_laws]
                  refine wpAnyH_take (i := 7) (v := ?vq7_7) (by simp only [List.getElem?_toArray, List.getElem?_cons_succ, List.getElem?_cons_zero]; rfl) (by kernel_rfl) (by kernel_rfl) (by kernel_rfl) (by exact fun _ _ _ h => h) (Or.inl ⟨by rfl, ?hq7_7⟩) hHeld ?rq7_7
                  case hq7_7 => (intro w hSw; (try dsimp only at hSw); go_simp; (try with_reducible rfl))
                  try simp only [put_laws]
                  refine wpAnyH_take (i := 8) (v := ?vq7_8) (by simp only [List.getElem?_toArray, List.getElem?_cons_succ, List.getElem?_cons_zero]; rfl) (by kernel_rfl) (by kernel_rfl) (by kernel_rfl) (by exact fun _ _ _ h => h) (Or.inl ⟨by rfl, ?hq7_8⟩) hHeld ?rq7_8
                  case hq7_8 => (intro w hSw; (try dsimp only at hSw); go_simp; (try with_reducible rfl))
                  try simp only [put_laws]
                  refine wpAnyH_take (i := 9) (v := ?vq7_9) (by simp only [List.getElem?_toArray, List.getElem?_cons_succ, List.getElem?_cons_zero]; rfl) (by kernel_rfl) (by kernel_rfl) (by kernel_rfl) (by exact fun _ _ _ h => h) (Or.inl ⟨by rfl, ?hq7_9⟩) hHeld ?rq7_9
                  case hq7_9 => (intro w hSw; (try dsimp only at hSw); go_simp; (try with_reducible rfl))
                  try simp only [put_laws]
                  refine wpAnyH_take (i := 10) (v := ?vq7_10) (by simp only [List.getElem?_toArray, List.getElem?_cons_succ, List.getElem?_cons_zero]; rfl) (by kernel_rfl) (by kernel_rfl) (by kernel_rfl) (by exact fun _ _ _ h => h) (Or.inl ⟨by rfl, ?hq7_10⟩) hHeld ?rq7_10
                  case hq7_10 => (intro w hSw; (try dsimp only at hSw); go_simp; (try with_reducible rfl))
                  try simp only [put_laws]
                  refine wpAnyH_take (i := 11) (v := ?vq7_11) (by simp only [List.getElem?_toArray, List.getElem?_cons_succ, List.getElem?_cons_zero]; rfl) (by kernel_rfl) (by kernel_rfl) (by kernel_rfl) (by exact fun _ _ _ h => h) (Or.inl ⟨by rfl, ?hq7_11⟩) hHeld ?rq7_11
                  case hq7_11 => (intro w hSw; (try dsimp only at hSw); go_simp; (try with_reducible rfl))
                  try simp only [put_laws]
                  refine wpAnyH_take (i := 12) (v := ?vq7_12) (by simp only [List.getElem?_toArray, List.getElem?_cons_succ, List.getElem?_cons_zero]; rfl) (by kernel_rfl) (by kernel_rfl) (by kernel_rfl) (by exact fun _ _ _ h => h) (Or.inl ⟨by rfl, ?hq7_12⟩) hHeld ?rq7_12
                  case hq7_12 => (intro w hSw; (try dsimp only at hSw); go_simp; (try with_reducible rfl))
                  try simp only [put_laws]
                  refine wpAnyH_take (i := 13) (v := ?vq7_13) (by simp only [List.getElem?_toArray, List.getElem?_cons_succ, List.getElem?_cons_zero]; rfl) (by kernel_rfl) (by kernel_rfl) (by kernel_rfl) (by exact fun _ _ _ h => h) (Or.inl ⟨by rfl, ?hq7_13⟩) hHeld ?rq7_13
                  case hq7_13 => (intro w hSw; (try dsimp only at hSw); go_simp; (try with_reducible rfl))
                  try simp only [put_laws]
                  refine wpAnyH_take (i := 14) (v := ?vq7_14) (by simp only [List.getElem?_toArray, List.getElem?_cons_succ, List.getElem?_cons_zero]; rfl) (by kernel_rfl) (by kernel_rfl) (by kernel_rfl) (by exact fun _ _ _ h => h) (Or.inl ⟨by rfl, ?hq7_14⟩) hHeld ?rq7_14
                  case hq7_14 => (intro w hSw; (try dsimp only at hSw); go_simp; (try with_reducible rfl))
                  try simp only [put_laws]
                  refine wpAnyH_take (i := 15) (v := ?vq7_15) (by simp only [List.getElem?_toArray, List.getElem?_cons_succ, List.getElem?_cons_zero]; rfl) (by kernel_rfl) (by kernel_rfl) (by kernel_rfl) (by exact fun _ _ _ h => h) (Or.inl ⟨by rfl, ?hq7_15⟩) hHeld ?rq7_15
                  case hq7_15 => (intro w hSw; (try dsimp only at hSw); go_simp; (try with_reducible rfl))
                  try simp only [put_laws]
                  refine wpAnyH_take (i := 16) (v := ?vq7_16) (by simp only [List.getElem?_toArray, List.getElem?_cons_succ, List.getElem?_cons_zero]; rfl) (by kernel_rfl) (by kernel_rfl) (by kernel_rfl) (by exact fun _ _ _ h => h) (Or.inl ⟨by rfl, ?hq7_16⟩) hHeld ?rq7_16
                  case hq7_16 => (intro w hSw; (try dsimp only at hSw); go_simp; (try with_reducible rfl))
                  try simp only [put_laws]
                  refine wpAnyH_take (i := 17) (v := ?vq7_17) (by simp only [List.getElem?_toArray, List.getElem?_cons_succ, List.getElem?_cons_zero]; rfl) (by kernel_rfl) (by kernel_rfl) (by kernel_rfl) (by exact fun _ _ _ h => h) (Or.inl ⟨by rfl, ?hq7_17⟩) hHeld ?rq7_17
                  case hq7_17 => (intro w hSw; (try dsimp only at hSw); go_simp; (try with_reducible rfl))
                  try simp only [put_laws]
                  refine wpAnyH_take (i := 18) (v := ?vq7_18) (by simp only [List.getElem?_toArray, List.getElem?_cons_succ, List.getElem?_cons_zero]; rfl) (by kernel_rfl) (by kernel_rfl) (by kernel_rfl) (by exact fun _ _ _ h => h) (Or.inl ⟨by rfl, ?hq7_18⟩) hHeld ?rq7_18
                  case hq7_18 => (intro w hSw; (try dsimp only at hSw); go_simp; (try with_reducible rfl))
                  try simp only [put_laws]
                  refine wpAnyH_take (i := 19) (v := ?vq7_19) (by simp only [List.getElem?_toArray, List.getElem?_cons_succ, List.getElem?_cons_zero]; rfl) (by kernel_rfl) (by kernel_rfl) (by kernel_rfl) (by exact fun _ _ _ h => h) (Or.inl ⟨by rfl, ?hq7_19⟩) hHeld ?rq7_19
                  case hq7_19 => (intro w hSw; (try dsimp only at hSw); go_simp; (try with_reducible rfl))
                  try simp only [put_laws]
                  refine wpAnyH_take (i := 20) (v := ?vq7_20) (by simp only [List.getElem?_toArray, List.getElem?_cons_succ, List.getElem?_cons_zero]; rfl) (by kernel_rfl) (by kernel_rfl) (by kernel_rfl) (by exact fun _ _ _ h => h) (Or.inl ⟨by rfl, ?hq7_20⟩) hHeld ?rq7_20
                  case hq7_20 => (intro w hSw; (try dsimp only at hSw); go_simp; (try with_reducible rfl))
                  try simp only [put_laws]
                  refine wpAnyH_take (i := 21) (v := ?vq7_21) (by simp only [List.getElem?_toArray, List.getElem?_cons_succ, List.getElem?_cons_zero]; rfl) (by kernel_rfl) (by kernel_rfl) (by kernel_rfl) (by exact fun _ _ _ h => h) (Or.inl ⟨by rfl, ?hq7_21⟩) hHeld ?rq7_21
                  case hq7_21 => (intro w hSw; (try dsimp only at hSw); go_simp; (try with_reducible rfl))
                  try simp only [put_laws]
                  refine wpAnyH_ready (rs := [22]) (by kernel_rfl) (by simp) ?_
                  refine AllReadyH.cons (by simp only [List.getElem?_toArray, List.getElem?_cons_succ, List.getElem?_cons_zero]; rfl) (fun K hK => ?_) AllReadyH.nil
                  go_simp
                  ((with_reducible refine (fits_no _ _ _ hfit.out).mono ?_); rintro e w1 ⟨rfl, hb1⟩)
                  refine hK.out _ _ ?_ (fun hHeld => ?_)
                  · (try dsimp only); (first | exact ⟨hT, hc0, hc1, hc2, hc3, hd0, hd1, hd2, (Below.refl _ _).drew⟩ | (obtain ⟨k0, k1, k2, k3, k4, k5, k6, k7, k8⟩ := hHeld; exact ⟨(hb1.cell (Nat.lt_of_lt_of_le hLr k8.size)).trans k0, (hb1.cell (Nat.lt_of_lt_of_le hb k8.size)).trans k1, (hb1.cell (Nat.lt_of_lt_of_le hb k8.size)).trans k2, (hb1.cell (Nat.lt_of_lt_of_le hb k8.size)).trans k3, (hb1.cell (Nat.lt_of_lt_of_le hb k8.size)).trans k4, (hb1.cell (Nat.lt_of_lt_of_le hqb k8.size)).trans k5, (hb1.cell (Nat.lt_of_lt_of_le hqb k8.size)).trans k6, (hb1.cell (Nat.lt_of_lt_of_le hqb k8.size)).trans k7, k8.trans (hb1.mono k8.size)⟩))
                  clear hK K
                  try simp only [put_laws]
                  refine wpAnyH_take (i := 23) (v := ?vq7_23) (by simp only [List.getElem?_toArray, List.getElem?_cons_succ, List.getElem?_cons_zero]; rfl) (by kernel_rfl) (by kernel_rfl) (by kernel_rfl) (by exact fun _ _ _ h => h) (Or.inl ⟨by rfl, ?hq7_23⟩) hHeld ?rq7_23
                  case hq7_23 => (intro w hSw; (try dsimp only at hSw); go_simp; (try with_reducible rfl))
                  try simp only [put_laws]
                  refine wpAnyH_take (i := 24) (v := ?vq7_24) (by simp only [List.getElem?_toArray, List.getElem?_cons_succ, List.getElem?_cons_zero]; rfl) (by kernel_rfl) (by kernel_rfl) (by kernel_rfl) (by exact fun _ _ _ h => h) (Or.inl ⟨by rfl, ?hq7_24⟩) hHeld ?rq7_24
                  case hq7_24 => (intro w hSw; (try dsimp only at hSw); go_simp; (try with_reducible rfl))
                  try simp only [put_laws]
                  refine wpAnyH_done (by kernel_rfl) ?_ _
                  have hbK := hHeld.2.2.2.2.2.2.2.2
                  go_wp2
                  go_ret
                  refine ⟨ret_bool ?_, hbw2.trans (hbK.mono hbw2.size)⟩
                  symm
                  refine giveB_bad (k := k) (by have := HG.out; omega) ?_
                  rw [HE.out]
                  rw [HE2.out]; exact hfit.out
                · have hfit := Lib.hid hf
                  clear hf
                  have hzq : ((p : Int) == -1) = false := by simp
                  have hzd2 : decide ((p : Int) < 0) = false := by simp
                  have hzm2 : decide (m ≤ p) = false := by simp; omega
                  go_wp2
                  refine wp_region_held_drew (S := (fun w' => w'.cell? ⟨L, p, none⟩ = some (.bool false) ∧ w'.cell? ⟨b, off + k * 4, none⟩ = some (.int .i64 x.f) ∧ w'.cell? ⟨b, off + k * 4 + 1, none⟩ = some (.int .i64 x.t) ∧ w'.cell? ⟨b, off + k * 4 + 2, none⟩ = some (.int .i64 x.r) ∧ w'.cell? ⟨b, off + k * 4 + 3, none⟩ = some (.int .i64 x.u) ∧ w'.cell? ⟨qb, qoff + p * 3, none⟩ = some (.int .i64 y.f) ∧ w'.cell? ⟨qb, qoff + p * 3 + 1, none⟩ = some (.int .i64 y.t) ∧ w'.cell? ⟨qb, qoff + p * 3 + 2, none⟩ = some (.int .i64 y.r) ∧ Below wr.heap.size wr w')) (by kernel_rfl) ?_ (fun hHeld => ?_)
                  · (try dsimp only); (first | exact ⟨hT, hc0, hc1, hc2, hc3, hd0, hd1, hd2, (Below.refl _ _).drew⟩ | (obtain ⟨k0, k1, k2, k3, k4, k5, k6, k7, k8⟩ := hHeld; exact ⟨(hb1.cell (Nat.lt_of_lt_of_le hLr k8.size)).trans k0, (hb1.cell (Nat.lt_of_lt_of_le hb k8.size)).trans k1, (hb1.cell (Nat.lt_of_lt_of_le hb k8.size)).trans k2, (hb1.cell (Nat.lt_of_lt_of_le hb k8.size)).trans k3, (hb1.cell (Nat.lt_of_lt_of_le hb k8.size)).trans k4, (hb1.cell (Nat.lt_of_lt_of_le hqb k8.size)).trans k5, (hb1.cell (Nat.lt_of_lt_of_le hqb k8.size)).trans k6, (hb1.cell (Nat.lt_of_lt_of_le hqb k8.size)).trans k7, k8.trans (hb1.mono k8.size)⟩))
                  refine wpAnyH_take (i := 0) (v := ?vq8_0) (by simp only [List.getElem?_toArray, List.getElem?_cons_zero]; rfl) (by kernel_rfl) (by kernel_rfl) (by kernel_rfl) (by exact fun _ _ _ h => h) (Or.inl ⟨by rfl, ?hq8_0⟩) hHeld ?rq8_0
                  case hq8_0 => (intro w hSw; (try dsimp only at hSw); go_simp; (try with_reducible rfl))
                  try simp only [put_laws]
                  refine wpAnyH_take (i := 1) (v := ?vq8_1) (by simp only [List.getElem?_toArray, List.getElem?_cons_succ, List.getElem?_cons_zero]; rfl) (by kernel_rfl) (by kernel_rfl) (by kernel_rfl) (by exact fun _ _ _ h => h) (Or.inl ⟨by rfl, ?hq8_1⟩) hHeld ?rq8_1
                  case hq8_1 => (intro w hSw; (try dsimp only at hSw); go_simp; (try with_reducible rfl))
                  try simp only [put_laws]
                  refine wpAnyH_take (i := 2) (v := ?vq8_2) (by simp only [List.getElem?_toArray, List.getElem?_cons_succ, List.getElem?_cons_zero]; rfl) (by kernel_rfl) (by kernel_rfl) (by kernel_rfl) (by exact fun _ _ _ h => h) (Or.inl ⟨by rfl, ?hq8_2⟩) hHeld ?rq8_2
                  case hq8_2 => (intro w hSw; (try dsimp only at hSw); go_simp; (try with_reducible rfl))
                  try simp only [put_laws]
                  refine wpAnyH_take (i := 3) (v := ?vq8_3) (by simp only [List.getElem?_toArray, List.getElem?_cons_succ, List.getElem?_cons_zero]; rfl) (by kernel_rfl) (by kernel_rfl) (by kernel_rfl) (by exact fun _ _ _ h => h) (Or.inl ⟨by rfl, ?hq8_3⟩) hHeld ?rq8_3
                  case hq8_3 => (intro w hSw; (try dsimp only at hSw); go_simp; (try with_reducible rfl))
                  try simp only [put_laws]
                  refine wpAnyH_take (i := 4) (v := ?vq8_4) (by simp only [List.getElem?_toArray, List.getElem?_cons_succ, List.getElem?_cons_zero]; rfl) (by kernel_rfl) (by kernel_rfl) (by kernel_rfl) (by exact fun _ _ _ h => h) (Or.inl ⟨by rfl, ?hq8_4⟩) hHeld ?rq8_4
                  case hq8_4 => (intro w hSw; (try dsimp only at hSw); go_simp; (try with_reducible rfl))
                  try simp only [put_laws]
                  refine wpAnyH_take (i := 5) (v := ?vq8_5) (by simp only [List.getElem?_toArray, List.getElem?_cons_succ, List.getElem?_cons_zero]; rfl) (by kernel_rfl) (by kernel_rfl) (by kernel_rfl) (by exact fun _ _ _ h => h) (Or.inl ⟨by rfl, ?hq8_5⟩) hHeld ?rq8_5
                  case hq8_5 => (intro w hSw; (try dsimp only at hSw); go_simp; (try with_reducible rfl))
                  try simp only [put_laws]
                  refine wpAnyH_take (i := 6) (v := ?vq8_6) (by simp only [List.getElem?_toArray, List.getElem?_cons_succ, List.getElem?_cons_zero]; rfl) (by kernel_rfl) (by kernel_rfl) (by kernel_rfl) (by exact fun _ _ _ h => h) (Or.inl ⟨by rfl, ?hq8_6⟩) hHeld ?rq8_6
                  case hq8_6 => (intro w hSw; (try dsimp only at hSw); go_simp; (try with_reducible rfl))
                  try simp only [put_laws]
                  refine wpAnyH_take (i := 7) (v := ?vq8_7) (by simp only [List.getElem?_toArray, List.getElem?_cons_succ, List.getElem?_cons_zero]; rfl) (by kernel_rfl) (by kernel_rfl) (by kernel_rfl) (by exact fun _ _ _ h => h) (Or.inl ⟨by rfl, ?hq8_7⟩) hHeld ?rq8_7
                  case hq8_7 => (intro w hSw; (try dsimp only at hSw); go_simp; (try with_reducible rfl))
                  try simp only [put_laws]
                  refine wpAnyH_take (i := 8) (v := ?vq8_8) (by simp only [List.getElem?_toArray, List.getElem?_cons_succ, List.getElem?_cons_zero]; rfl) (by kernel_rfl) (by kernel_rfl) (by kernel_rfl) (by exact fun _ _ _ h => h) (Or.inl ⟨by rfl, ?hq8_8⟩) hHeld ?rq8_8
                  case hq8_8 => (intro w hSw; (try dsimp only at hSw); go_simp; (try with_reducible rfl))
                  try simp only [put_laws]
                  refine wpAnyH_take (i := 9) (v := ?vq8_9) (by simp only [List.getElem?_toArray, List.getElem?_cons_succ, List.getElem?_cons_zero]; rfl) (by kernel_rfl) (by kernel_rfl) (by kernel_rfl) (by exact fun _ _ _ h => h) (Or.inl ⟨by rfl, ?hq8_9⟩) hHeld ?rq8_9
                  case hq8_9 => (intro w hSw; (try dsimp only at hSw); go_simp; (try with_reducible rfl))
                  try simp only [put_laws]
                  refine wpAnyH_take (i := 10) (v := ?vq8_10) (by simp only [List.getElem?_toArray, List.getElem?_cons_succ, List.getElem?_cons_zero]; rfl) (by kernel_rfl) (by kernel_rfl) (by kernel_rfl) (by exact fun _ _ _ h => h) (Or.inl ⟨by rfl, ?hq8_10⟩) hHeld ?rq8_10
                  case hq8_10 => (intro w hSw; (try dsimp only at hSw); go_simp; (try with_reducible rfl))
                  try simp only [put_laws]
                  refine wpAnyH_take (i := 11) (v := ?vq8_11) (by simp only [List.getElem?_toArray, List.getElem?_cons_succ, List.getElem?_cons_zero]; rfl) (by kernel_rfl) (by kernel_rfl) (by kernel_rfl) (by exact fun _ _ _ h => h) (Or.inl ⟨by rfl, ?hq8_11⟩) hHeld ?rq8_11
                  case hq8_11 => (intro w hSw; (try dsimp only at hSw); go_simp; (try with_reducible rfl))
                  try simp only [put_laws]
                  refine wpAnyH_take (i := 12) (v := ?vq8_12) (by simp only [List.getElem?_toArray, List.getElem?_cons_succ, List.getElem?_cons_zero]; rfl) (by kernel_rfl) (by kernel_rfl) (by kernel_rfl) (by exact fun _ _ _ h => h) (Or.inl ⟨by rfl, ?hq8_12⟩) hHeld ?rq8_12
                  case hq8_12 => (intro w hSw; (try dsimp only at hSw); go_simp; (try with_reducible rfl))
                  try simp only [put_laws]
                  refine wpAnyH_take (i := 13) (v := ?vq8_13) (by simp only [List.getElem?_toArray, List.getElem?_cons_succ, List.getElem?_cons_zero]; rfl) (by kernel_rfl) (by kernel_rfl) (by kernel_rfl) (by exact fun _ _ _ h => h) (Or.inl ⟨by rfl, ?hq8_13⟩) hHeld ?rq8_13
                  case hq8_13 => (intro w hSw; (try dsimp only at hSw); go_simp; (try with_reducible rfl))
                  try simp only [put_laws]
                  refine wpAnyH_take (i := 14) (v := ?vq8_14) (by simp only [List.getElem?_toArray, List.getElem?_cons_succ, List.getElem?_cons_zero]; rfl) (by kernel_rfl) (by kernel_rfl) (by kernel_rfl) (by exact fun _ _ _ h => h) (Or.inl ⟨by rfl, ?hq8_14⟩) hHeld ?rq8_14
                  case hq8_14 => (intro w hSw; (try dsimp only at hSw); go_simp; (try with_reducible rfl))
                  try simp only [put_laws]
                  refine wpAnyH_take (i := 15) (v := ?vq8_15) (by simp only [List.getElem?_toArray, List.getElem?_cons_succ, List.getElem?_cons_zero]; rfl) (by kernel_rfl) (by kernel_rfl) (by kernel_rfl) (by exact fun _ _ _ h => h) (Or.inl ⟨by rfl, ?hq8_15⟩) hHeld ?rq8_15
                  case hq8_15 => (intro w hSw; (try dsimp only at hSw); go_simp; (try with_reducible rfl))
                  try simp only [put_laws]
                  refine wpAnyH_take (i := 16) (v := ?vq8_16) (by simp only [List.getElem?_toArray, List.getElem?_cons_succ, List.getElem?_cons_zero]; rfl) (by kernel_rfl) (by kernel_rfl) (by kernel_rfl) (by exact fun _ _ _ h => h) (Or.inl ⟨by rfl, ?hq8_16⟩) hHeld ?rq8_16
                  case hq8_16 => (intro w hSw; (try dsimp only at hSw); go_simp; (try with_reducible rfl))
                  try simp only [put_laws]
                  refine wpAnyH_take (i := 17) (v := ?vq8_17) (by simp only [List.getElem?_toArray, List.getElem?_cons_succ, List.getElem?_cons_zero]; rfl) (by kernel_rfl) (by kernel_rfl) (by kernel_rfl) (by exact fun _ _ _ h => h) (Or.inl ⟨by rfl, ?hq8_17⟩) hHeld ?rq8_17
                  case hq8_17 => (intro w hSw; (try dsimp only at hSw); go_simp; (try with_reducible rfl))
                  try simp only [put_laws]
                  refine wpAnyH_take (i := 18) (v := ?vq8_18) (by simp only [List.getElem?_toArray, List.getElem?_cons_succ, List.getElem?_cons_zero]; rfl) (by kernel_rfl) (by kernel_rfl) (by kernel_rfl) (by exact fun _ _ _ h => h) (Or.inl ⟨by rfl, ?hq8_18⟩) hHeld ?rq8_18
                  case hq8_18 => (intro w hSw; (try dsimp only at hSw); go_simp; (try with_reducible rfl))
                  try simp only [put_laws]
                  refine wpAnyH_take (i := 19) (v := ?vq8_19) (by simp only [List.getElem?_toArray, List.getElem?_cons_succ, List.getElem?_cons_zero]; rfl) (by kernel_rfl) (by kernel_rfl) (by kernel_rfl) (by exact fun _ _ _ h => h) (Or.inl ⟨by rfl, ?hq8_19⟩) hHeld ?rq8_19
                  case hq8_19 => (intro w hSw; (try dsimp only at hSw); go_simp; (try with_reducible rfl))
                  try simp only [put_laws]
                  refine wpAnyH_take (i := 20) (v := ?vq8_20) (by simp only [List.getElem?_toArray, List.getElem?_cons_succ, List.getElem?_cons_zero]; rfl) (by kernel_rfl) (by kernel_rfl) (by kernel_rfl) (by exact fun _ _ _ h => h) (Or.inl ⟨by rfl, ?hq8_20⟩) hHeld ?rq8_20
                  case hq8_20 => (intro w hSw; (try dsimp only at hSw); go_simp; (try with_reducible rfl))
                  try simp only [put_laws]
                  refine wpAnyH_take (i := 21) (v := ?vq8_21) (by simp only [List.getElem?_toArray, List.getElem?_cons_succ, List.getElem?_cons_zero]; rfl) (by kernel_rfl) (by kernel_rfl) (by kernel_rfl) (by exact fun _ _ _ h => h) (Or.inl ⟨by rfl, ?hq8_21⟩) hHeld ?rq8_21
                  case hq8_21 => (intro w hSw; (try dsimp only at hSw); go_simp; (try with_reducible rfl))
                  try simp only [put_laws]
                  refine wpAnyH_ready (rs := [22]) (by kernel_rfl) (by simp) ?_
                  refine AllReadyH.cons (by simp only [List.getElem?_toArray, List.getElem?_cons_succ, List.getElem?_cons_zero]; rfl) (fun K hK => ?_) AllReadyH.nil
                  go_simp
                  ((with_reducible refine (fits_yes _ _ _ hfit.out).mono ?_); rintro e w1 ⟨rfl, hb1⟩)
                  refine hK.out _ _ ?_ (fun hHeld => ?_)
                  · (try dsimp only); (first | exact ⟨hT, hc0, hc1, hc2, hc3, hd0, hd1, hd2, (Below.refl _ _).drew⟩ | (obtain ⟨k0, k1, k2, k3, k4, k5, k6, k7, k8⟩ := hHeld; exact ⟨(hb1.cell (Nat.lt_of_lt_of_le hLr k8.size)).trans k0, (hb1.cell (Nat.lt_of_lt_of_le hb k8.size)).trans k1, (hb1.cell (Nat.lt_of_lt_of_le hb k8.size)).trans k2, (hb1.cell (Nat.lt_of_lt_of_le hb k8.size)).trans k3, (hb1.cell (Nat.lt_of_lt_of_le hb k8.size)).trans k4, (hb1.cell (Nat.lt_of_lt_of_le hqb k8.size)).trans k5, (hb1.cell (Nat.lt_of_lt_of_le hqb k8.size)).trans k6, (hb1.cell (Nat.lt_of_lt_of_le hqb k8.size)).trans k7, k8.trans (hb1.mono k8.size)⟩))
                  clear hK K
                  try simp only [put_laws]
                  refine wpAnyH_take (i := 23) (v := ?vq8_23) (by simp only [List.getElem?_toArray, List.getElem?_cons_succ, List.getElem?_cons_zero]; rfl) (by kernel_rfl) (by kernel_rfl) (by kernel_rfl) (by exact fun _ _ _ h => h) (Or.inl ⟨by rfl, ?hq8_23⟩) hHeld ?rq8_23
                  case hq8_23 => (intro w hSw; (try dsimp only at hSw); go_simp; (try with_reducible rfl))
                  try simp only [put_laws]
                  refine wpAnyH_take (i := 24) (v := ?vq8_24) (by simp only [List.getElem?_toArray, List.getElem?_cons_succ, List.getElem?_cons_zero]; rfl) (by kernel_rfl) (by kernel_rfl) (by kernel_rfl) (by exact fun _ _ _ h => h) (Or.inl ⟨by rfl, ?hq8_24⟩) hHeld ?rq8_24
                  case hq8_24 => (intro w hSw; (try dsimp only at hSw); go_simp; (try with_reducible rfl))
                  try simp only [put_laws]
                  refine wpAnyH_done (by kernel_rfl) ?_ _
                  obtain ⟨k0, -, -, -, -, -, -, -, hbK⟩ := hHeld
                  have hWK := hW.below hbK
                  have hfz := hWK.free p
                  have hbw3 := below_next hbw hbK
                  have hL2 : w2.heap.size ≤ L := by have := HLo.out; omega
                  clear hbK
                  go_wp2
                  go_roundw
                  case rel => exact ⟨k + 1, by omega, by go_num, okAt_next HOK.out (by rw [HE.out, HE2.out]; exact hfit.out), by rw [← takenL_next HZ rfl]; exact hWK.set_ p _, hbw3.setCell (by simpa using hL2) _⟩
                  case measure => simp [intOf]; omega
              · have hT : wr.cell? ⟨L, p, none⟩ = some (.bool true) := by rw [htk] at hT'; exact hT'
                have HTK := Lib.hid htk
                clear htk hT' hzd hz0 hzm hz1
                have hzq : ((p : Int) == -1) = false := by simp
                have hzd2 : decide ((p : Int) < 0) = false := by simp
                have hzm2 : decide (m ≤ p) = false := by simp; omega
                go_wp2
                refine wp_region_held_drew (S := (fun w' => w'.cell? ⟨L, p, none⟩ = some (.bool true) ∧ w'.cell? ⟨b, off + k * 4, none⟩ = some (.int .i64 x.f) ∧ w'.cell? ⟨b, off + k * 4 + 1, none⟩ = some (.int .i64 x.t) ∧ w'.cell? ⟨b, off + k * 4 + 2, none⟩ = some (.int .i64 x.r) ∧ w'.cell? ⟨b, off + k * 4 + 3, none⟩ = some (.int .i64 x.u) ∧ w'.cell? ⟨qb, qoff + p * 3, none⟩ = some (.int .i64 y.f) ∧ w'.cell? ⟨qb, qoff + p * 3 + 1, none⟩ = some (.int .i64 y.t) ∧ w'.cell? ⟨qb, qoff + p * 3 + 2, none⟩ = some (.int .i64 y.r) ∧ Below wr.heap.size wr w')) (by kernel_rfl) ?_ (fun hHeld => ?_)
                · (try dsimp only); (first | exact ⟨hT, hc0, hc1, hc2, hc3, hd0, hd1, hd2, (Below.refl _ _).drew⟩ | (obtain ⟨k0, k1, k2, k3, k4, k5, k6, k7, k8⟩ := hHeld; exact ⟨(hb1.cell (Nat.lt_of_lt_of_le hLr k8.size)).trans k0, (hb1.cell (Nat.lt_of_lt_of_le hb k8.size)).trans k1, (hb1.cell (Nat.lt_of_lt_of_le hb k8.size)).trans k2, (hb1.cell (Nat.lt_of_lt_of_le hb k8.size)).trans k3, (hb1.cell (Nat.lt_of_lt_of_le hb k8.size)).trans k4, (hb1.cell (Nat.lt_of_lt_of_le hqb k8.size)).trans k5, (hb1.cell (Nat.lt_of_lt_of_le hqb k8.size)).trans k6, (hb1.cell (Nat.lt_of_lt_of_le hqb k8.size)).trans k7, k8.trans (hb1.mono k8.size)⟩))
                refine wpAnyH_take (i := 0) (v := ?vq9_0) (by simp only [List.getElem?_toArray, List.getElem?_cons_zero]; rfl) (by kernel_rfl) (by kernel_rfl) (by kernel_rfl) (by exact fun _ _ _ h => h) (Or.inl ⟨by rfl, ?hq9_0⟩) hHeld ?rq9_0
                case hq9_0 => (intro w hSw; (try dsimp only at hSw); go_simp; (try with_reducible rfl))
                try simp only [put_laws]
                refine wpAnyH_take (i := 1) (v := ?vq9_1) (by simp only [List.getElem?_toArray, List.getElem?_cons_succ, List.getElem?_cons_zero]; rfl) (by kernel_rfl) (by kernel_rfl) (by kernel_rfl) (by exact fun _ _ _ h => h) (Or.inl ⟨by rfl, ?hq9_1⟩) hHeld ?rq9_1
                case hq9_1 => (intro w hSw; (try dsimp only at hSw); go_simp; (try with_reducible rfl))
                try simp only [put_laws]
                refine wpAnyH_take (i := 2) (v := ?vq9_2) (by simp only [List.getElem?_toArray, List.getElem?_cons_succ, List.getElem?_cons_zero]; rfl) (by kernel_rfl) (by kernel_rfl) (by kernel_rfl) (by exact fun _ _ _ h => h) (Or.inl ⟨by rfl, ?hq9_2⟩) hHeld ?rq9_2
                case hq9_2 => (intro w hSw; (try dsimp only at hSw); go_simp; (try with_reducible rfl))
                try simp only [put_laws]
                refine wpAnyH_take (i := 3) (v := ?vq9_3) (by simp only [List.getElem?_toArray, List.getElem?_cons_succ, List.getElem?_cons_zero]; rfl) (by kernel_rfl) (by kernel_rfl) (by kernel_rfl) (by exact fun _ _ _ h => h) (Or.inl ⟨by rfl, ?hq9_3⟩) hHeld ?rq9_3
                case hq9_3 => (intro w hSw; (try dsimp only at hSw); go_simp; (try with_reducible rfl))
                try simp only [put_laws]
                refine wpAnyH_take (i := 4) (v := ?vq9_4) (by simp only [List.getElem?_toArray, List.getElem?_cons_succ, List.getElem?_cons_zero]; rfl) (by kernel_rfl) (by kernel_rfl) (by kernel_rfl) (by exact fun _ _ _ h => h) (Or.inl ⟨by rfl, ?hq9_4⟩) hHeld ?rq9_4
                case hq9_4 => (intro w hSw; (try dsimp only at hSw); go_simp; (try with_reducible rfl))
                try simp only [put_laws]
                refine wpAnyH_take (i := 5) (v := ?vq9_5) (by simp only [List.getElem?_toArray, List.getElem?_cons_succ, List.getElem?_cons_zero]; rfl) (by kernel_rfl) (by kernel_rfl) (by kernel_rfl) (by exact fun _ _ _ h => h) (Or.inl ⟨by rfl, ?hq9_5⟩) hHeld ?rq9_5
                case hq9_5 => (intro w hSw; (try dsimp only at hSw); go_simp; (try with_reducible rfl))
                try simp only [put_laws]
                refine wpAnyH_take (i := 6) (v := ?vq9_6) (by simp only [List.getElem?_toArray, List.getElem?_cons_succ, List.getElem?_cons_zero]; rfl) (by kernel_rfl) (by kernel_rfl) (by kernel_rfl) (by exact fun _ _ _ h => h) (Or.inl ⟨by rfl, ?hq9_6⟩) hHeld ?rq9_6
                case hq9_6 => (intro w hSw; (try dsimp only at hSw); go_simp; (try with_reducible rfl))
                try simp only [put_laws]
                refine wpAnyH_take (i := 7) (v := ?vq9_7) (by simp only [List.getElem?_toArray, List.getElem?_cons_succ, List.getElem?_cons_zero]; rfl) (by kernel_rfl) (by kernel_rfl) (by kernel_rfl) (by exact fun _ _ _ h => h) (Or.inl ⟨by rfl, ?hq9_7⟩) hHeld ?rq9_7
                case hq9_7 => (intro w hSw; (try dsimp only at hSw); go_simp; (try with_reducible rfl))
                try simp only [put_laws]
                refine wpAnyH_take (i := 8) (v := ?vq9_8) (by simp only [List.getElem?_toArray, List.getElem?_cons_succ, List.getElem?_cons_zero]; rfl) (by kernel_rfl) (by kernel_rfl) (by kernel_rfl) (by exact fun _ _ _ h => h) (Or.inl ⟨by rfl, ?hq9_8⟩) hHeld ?rq9_8
                case hq9_8 => (intro w hSw; (try dsimp only at hSw); go_simp; (try with_reducible rfl))
                try simp only [put_laws]
                refine wpAnyH_take (i := 9) (v := ?vq9_9) (by simp only [List.getElem?_toArray, List.getElem?_cons_succ, List.getElem?_cons_zero]; rfl) (by kernel_rfl) (by kernel_rfl) (by kernel_rfl) (by exact fun _ _ _ h => h) (Or.inl ⟨by rfl, ?hq9_9⟩) hHeld ?rq9_9
                case hq9_9 => (intro w hSw; (try dsimp only at hSw); go_simp; (try with_reducible rfl))
                try simp only [put_laws]
                refine wpAnyH_take (i := 10) (v := ?vq9_10) (by simp only [List.getElem?_toArray, List.getElem?_cons_succ, List.getElem?_cons_zero]; rfl) (by kernel_rfl) (by kernel_rfl) (by kernel_rfl) (by exact fun _ _ _ h => h) (Or.inl ⟨by rfl, ?hq9_10⟩) hHeld ?rq9_10
                case hq9_10 => (intro w hSw; (try dsimp only at hSw); go_simp; (try with_reducible rfl))
                try simp only [put_laws]
                refine wpAnyH_take (i := 11) (v := ?vq9_11) (by simp only [List.getElem?_toArray, List.getElem?_cons_succ, List.getElem?_cons_zero]; rfl) (by kernel_rfl) (by kernel_rfl) (by kernel_rfl) (by exact fun _ _ _ h => h) (Or.inl ⟨by rfl, ?hq9_11⟩) hHeld ?rq9_11
                case hq9_11 => (intro w hSw; (try dsimp only at hSw); go_simp; (try with_reducible rfl))
                try simp only [put_laws]
                refine wpAnyH_take (i := 12) (v := ?vq9_12) (by simp only [List.getElem?_toArray, List.getElem?_cons_succ, List.getElem?_cons_zero]; rfl) (by kernel_rfl) (by kernel_rfl) (by kernel_rfl) (by exact fun _ _ _ h => h) (Or.inl ⟨by rfl, ?hq9_12⟩) hHeld ?rq9_12
                case hq9_12 => (intro w hSw; (try dsimp only at hSw); go_simp; (try with_reducible rfl))
                try simp only [put_laws]
                refine wpAnyH_take (i := 13) (v := ?vq9_13) (by simp only [List.getElem?_toArray, List.getElem?_cons_succ, List.getElem?_cons_zero]; rfl) (by kernel_rfl) (by kernel_rfl) (by kernel_rfl) (by exact fun _ _ _ h => h) (Or.inl ⟨by rfl, ?hq9_13⟩) hHeld ?rq9_13
                case hq9_13 => (intro w hSw; (try dsimp only at hSw); go_simp; (try with_reducible rfl))
                try simp only [put_laws]
                refine wpAnyH_take (i := 14) (v := undef) (by simp only [List.getElem?_toArray, List.getElem?_cons_succ, List.getElem?_cons_zero]; rfl) (by kernel_rfl) (by kernel_rfl) (by kernel_rfl) (by exact fun _ _ _ h => h) (Or.inr ⟨by rfl, rfl⟩) hHeld ?_
                try simp only [put_laws]
                refine wpAnyH_take (i := 15) (v := undef) (by simp only [List.getElem?_toArray, List.getElem?_cons_succ, List.getElem?_cons_zero]; rfl) (by kernel_rfl) (by kernel_rfl) (by kernel_rfl) (by exact fun _ _ _ h => h) (Or.inr ⟨by rfl, rfl⟩) hHeld ?_
                try simp only [put_laws]
                refine wpAnyH_take (i := 16) (v := undef) (by simp only [List.getElem?_toArray, List.getElem?_cons_succ, List.getElem?_cons_zero]; rfl) (by kernel_rfl) (by kernel_rfl) (by kernel_rfl) (by exact fun _ _ _ h => h) (Or.inr ⟨by rfl, rfl⟩) hHeld ?_
                try simp only [put_laws]
                refine wpAnyH_take (i := 17) (v := undef) (by simp only [List.getElem?_toArray, List.getElem?_cons_succ, List.getElem?_cons_zero]; rfl) (by kernel_rfl) (by kernel_rfl) (by kernel_rfl) (by exact fun _ _ _ h => h) (Or.inr ⟨by rfl, rfl⟩) hHeld ?_
                try simp only [put_laws]
                refine wpAnyH_take (i := 18) (v := undef) (by simp only [List.getElem?_toArray, List.getElem?_cons_succ, List.getElem?_cons_zero]; rfl) (by kernel_rfl) (by kernel_rfl) (by kernel_rfl) (by exact fun _ _ _ h => h) (Or.inr ⟨by rfl, rfl⟩) hHeld ?_
                try simp only [put_laws]
                refine wpAnyH_take (i := 19) (v := undef) (by simp only [List.getElem?_toArray, List.getElem?_cons_succ, List.getElem?_cons_zero]; rfl) (by kernel_rfl) (by kernel_rfl) (by kernel_rfl) (by exact fun _ _ _ h => h) (Or.inr ⟨by rfl, rfl⟩) hHeld ?_
                try simp only [put_laws]
                refine wpAnyH_take (i := 20) (v := undef) (by simp only [List.getElem?_toArray, List.getElem?_cons_succ, List.getElem?_cons_zero]; rfl) (by kernel_rfl) (by kernel_rfl) (by kernel_rfl) (by exact fun _ _ _ h => h) (Or.inr ⟨by rfl, rfl⟩) hHeld ?_
                try simp only [put_laws]
                refine wpAnyH_take (i := 21) (v := undef) (by simp only [List.getElem?_toArray, List.getElem?_cons_succ, List.getElem?_cons_zero]; rfl) (by kernel_rfl) (by kernel_rfl) (by kernel_rfl) (by exact fun _ _ _ h => h) (Or.inr ⟨by rfl, rfl⟩) hHeld ?_
                try simp only [put_laws]
                refine wpAnyH_take (i := 22) (v := undef) (by simp only [List.getElem?_toArray, List.getElem?_cons_succ, List.getElem?_cons_zero]; rfl) (by kernel_rfl) (by kernel_rfl) (by kernel_rfl) (by exact fun _ _ _ h => h) (Or.inr ⟨by rfl, rfl⟩) hHeld ?_
                try simp only [put_laws]
                refine wpAnyH_take (i := 23) (v := undef) (by simp only [List.getElem?_toArray, List.getElem?_cons_succ, List.getElem?_cons_zero]; rfl) (by kernel_rfl) (by kernel_rfl) (by kernel_rfl) (by exact fun _ _ _ h => h) (Or.inr ⟨by rfl, rfl⟩) hHeld ?_
                try simp only [put_laws]
                refine wpAnyH_take (i := 24) (v := ?vq9_24) (by simp only [List.getElem?_toArray, List.getElem?_cons_succ, List.getElem?_cons_zero]; rfl) (by kernel_rfl) (by kernel_rfl) (by kernel_rfl) (by exact fun _ _ _ h => h) (Or.inl ⟨by rfl, ?hq9_24⟩) hHeld ?rq9_24
                case hq9_24 => (intro w hSw; (try dsimp only at hSw); go_simp; (try with_reducible rfl))
                try simp only [put_laws]
                refine wpAnyH_done (by kernel_rfl) ?_ _
                have hbK := hHeld.2.2.2.2.2.2.2.2
                go_wp2
                go_ret
                refine ⟨ret_bool ?_, hbw2.trans (hbK.mono hbw2.size)⟩
                symm
                refine giveB_bad (k := k) (by have := HG.out; omega) ?_
                rw [HE.out]
                exact okZ_taken HZ1.out HTK.out
      · go_wp2
        go_ret
        refine ⟨ret_bool ?_, hbw2⟩
        symm
        have h1 := HG.out
        have h2 := HL.out
        exact giveB_all HC.out HP.out (by omega) (fun i hi => HOK.out i (by omega))
  · have hln' : ¬ (l : Int) = n := by omega
    have hlb : ((l : Int) != (n : Int)) = true := bne_iff_ne.2 hln'
    have hlb2 : (l != n) = true := by simpa using hln
    go_enter Tryd.func16, Tryd.ntmps16
    go_wp2_with fail
    refine (carsValid_any A n c cs _ HN.out hx).mono ?_; rintro e w1 ⟨rfl, hb1⟩
    go_wp2_with fail
    refine (placesValid_any P m pc ps _ hm (hp.below hb1)).mono ?_; rintro e w2 ⟨rfl, hb2⟩
    go_wp2
    go_ret
    have h1 := HG.out
    have h2 := HL.out
    exact ⟨ret_bool (giveB_len (by omega)).symm, below_next hb1 hb2⟩
end Go.Proofs.YtmmaeninlhbaaaaDoor
