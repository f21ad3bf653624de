/-
  The law FnGiveBest: the best list is a list; no car without a place fits into one that nobody has; and no two cars could exchange their places so that less is wasted.
-/
import Derived.Test.YtmmaeninlhbaaaaDoorDrBest
import Derived.Test.YtmmaeninlhbaaaaDoorAlive
import Derived.Test.YtmmaeninlhbaaaaDoorBestI
import Derived.Test.YtmmaeninlhbaaaaDoorBestF
import Derived.Test.YtmmaeninlhbaaaaDoorSameI
import Derived.Deep.CutRange
namespace Go.Proofs.YtmmaeninlhbaaaaDoor
open Go.ChangeShapes Go.WideShapes Go.ChangeAt Go.RowKit

theorem Whole.setOther {w : World} {g h i j : Nat} {v u : Value} (hne : g ≠ h) (hc : w.cell? ⟨g, i, none⟩ = some u) : (w.setCell ⟨h, j, none⟩ v).cell? ⟨g, i, none⟩ = some u := by
  simp only [World.cell?] at hc ⊢
  rw [Below.heap_setCell w ⟨h, j, none⟩ v g hne]; exact hc

set_option maxRecDepth 100000 in
set_option maxHeartbeats 3000000 in
theorem lawGiveBest (A : Option Addr) (n c : Nat) (bs : List Int) (w : World) (hn : n ≤ c ∧ c ≤ 9223372036854775807) (hb : BytesAt w A n bs) :
    Calls Tryd.prog 8 #[.slice A n c] w (RV w (.bool true)) := by
  obtain ⟨hn1, hn2⟩ := hn
  by_cases hbig : 1048576 < n
  · have hd : decide (1048576 < n) = true := by simpa using hbig
    go_enter Tryd.func8, Tryd.ntmps8
    go_wp2
    go_ret
    exact ⟨rfl, Below.refl _ _⟩
  have hd : decide (1048576 < n) = false := by simpa using hbig
  have HB := Lib.hid hb
  clear hb
  have hbs : ∀ w : World, (Instr.buildSlice 27 0 #[]).run Tryd.prog w = .ok (.slice (some ⟨w.heap.size, 0, none⟩) 0 0) (w.alloc (.cells #[] 3)) := fun _ => by kernel_rfl
  go_enter Tryd.func8, Tryd.ntmps8
  go_wp2_with fail
  refine (drawGiveBest_any w A n c bs ⟨hn1, hn2⟩ HB.out).mono ?_; rintro e w1 ⟨g, m, d, cs, g2, m2, d2, ps, rfl, hC1, hm, hP1, hm2, hb1⟩
  clear HB hn1 hn2 hbig hd
  have hmd : m ≤ d ∧ d ≤ 9223372036854775807 := hC1.cap
  go_wp2_with fail
  refine (giveBest_any _ m d cs _ m2 d2 ps w1 hmd hC1.slAt (by omega) hP1.slAt).mono ?_; rintro e w2 ⟨X, q, xc, rfl, hq, hX2, hb2⟩
  have hq6 : q ≤ 6 := by rw [hq]; exact bestAll_short _ _
  have hxc := hX2.cap
  have HQ := Lib.hid hq
  have hG2 : w2.ownsRow w1.heap.size 3 1 (.slice X q xc) q ((bestAll cs ps).map (Value.int .i64)) := by rw [← ic_flat]; exact hX2.own
  have hC2 := hC1.below hb2
  have hP2 := hP1.below hb2
  have hB2 := below_next hb1 hb2
  clear hC1 hP1 hb1 hb2 hq hX2
  go_wp2_with fail
  refine (specGiveBest_any _ m d cs _ m2 d2 ps w2 hmd hC2.slAt (by omega) hP2.slAt).mono ?_; rintro e w3 ⟨Y, y, yc, rfl, hy, hY3, hb3⟩
  have hy6 : y ≤ 6 := by rw [hy]; exact bestAll_short _ _
  have hYi : IntsAt w3 Y y (bestAll cs ps) := (OwnAt.farInts (base := w2.heap.size) (by rw [← ic_flat]; exact hY3.own)).ints
  have hG3 := own_keep hG2 hb3
  have hC3 := hC2.below hb3
  have hP3 := hP2.below hb3
  have hB3 := below_next hB2 hb3
  clear hC2 hP2 hB2 hb3 hY3 hy hG2
  go_wp2_with fail
  refine (sameInts_self X Y q xc y yc _ w3 (by omega) (OwnAt.farInts hG3).ints hYi).mono ?_; rintro e w4 ⟨rfl, hb4⟩
  have hG4 := own_keep hG3 hb4
  have hC4 := hC3.below hb4
  have hP4 := hP3.below hb4
  have hB4 := below_next hB3 hb4
  clear hC3 hP3 hB3 hb4 hG3 hYi
  go_wp2_with fail
  refine (specCarsValid_any _ m d cs w4 hmd hC4.slAt).mono ?_; rintro e w5 ⟨rfl, hb5⟩
  have hG5 := own_keep hG4 hb5
  have hC5 := hC4.below hb5
  have hP5 := hP4.below hb5
  have hB5 := below_next hB4 hb5
  clear hC4 hP4 hB4 hb5 hG4
  cases hv1 : carsB cs
  · have hq0 : q = 0 := by rw [HQ.out]; simp [bestAll, hv1]
    subst hq0
    clear hv1
    go_wp2_with fail
    refine (alive_any w5).mono ?_; rintro e w6 ⟨rfl, hb6⟩
    have hB6 := below_next hB5 hb6
    go_wp2
    go_ret
    exact ⟨rfl, hB6⟩
  have HV1 := Lib.hid hv1
  clear hv1
  go_wp2_with fail
  refine (specPlacesValid_any _ m2 d2 ps w5 (by omega) hP5.slAt).mono ?_; rintro e w6 ⟨rfl, hb6⟩
  have hG6 := own_keep hG5 hb6
  have hC6 := hC5.below hb6
  have hP6 := hP5.below hb6
  have hB6 := below_next hB5 hb6
  clear hC5 hP5 hB5 hb6 hG5
  cases hv2 : placesB ps
  · have hq0 : q = 0 := by rw [HQ.out]; simp [bestAll, hv2]
    subst hq0
    clear hv2
    go_wp2_with fail
    refine (alive_any w6).mono ?_; rintro e w7 ⟨rfl, hb7⟩
    have hB7 := below_next hB6 hb7
    go_wp2
    go_ret
    exact ⟨rfl, hB7⟩
  have HV2 := Lib.hid hv2
  clear hv2
  have HG := Lib.hid (bestAll_giveB HV1.out HV2.out)
  have HFREE := Lib.hid (fun (a p : Nat) (z : Int) (x : C4) (y : P3) => best_free HV1.out HV2.out (a := a) (p := p) (z := z) (x := x) (y := y))
  have HSWAP := Lib.hid (fun (a b : Nat) (za zb : Int) => best_swap (cs := cs) (ps := ps) (a := a) (b := b) (za := za) (zb := zb))
  have hmq : q = m := by rw [HQ.out, (bestAll_ok HV1.out HV2.out).2]; exact CarsAt.len hC6.slAt
  subst hmq
  go_wp2_with fail
  refine (giveWaste_any _ q d cs _ m2 d2 ps X q xc (bestAll cs ps) w6 hmd hC6.slAt (by omega) hP6.slAt hxc (OwnAt.farInts hG6).ints).mono ?_; rintro e w7 ⟨rfl, hb7⟩
  have hW0 : 0 ≤ wasteL cs ps (bestAll cs ps) := by rw [wasteL_yes HG.out]; exact (wasteK_range HG.out _ (Nat.le_refl _)).1
  have hG7 := own_keep hG6 hb7
  have hC7 := hC6.below hb7
  have hP7 := hP6.below hb7
  have hB7 := below_next hB6 hb7
  clear hC6 hP6 hB6 hb7 hG6
  generalize bestAll cs ps = B at HQ hG7 HG HFREE HSWAP hW0 ⊢
  obtain ⟨W, hW⟩ : ∃ W, wasteL cs ps B = W := ⟨_, rfl⟩
  rw [hW] at hW0 ⊢
  have HW := Lib.hid hW
  clear hW
  go_wp2
  go_loopw [7, 8, 9, 10] (fun va _ _ _ wr => ∃ a : Nat, a ≤ q ∧ va = .int .i64 a ∧ Below w7.heap.size w7 wr) (fun a _ _ _ _ => q - (intOf a).toNat)
  case atStart => exact ⟨0, by omega, rfl, Below.refl _ _⟩
  case round =>
    obtain ⟨a, haq, rfl, hbw⟩ := hrel
    by_cases hlt : a < q
    · obtain ⟨gX, rfl⟩ := own_block hG7 (by omega)
      go_wp2
      go_loopw [8] (fun vp w8 => ∃ p : Nat, p ≤ m2 ∧ vp = .int .i64 p ∧ Below w7.heap.size w7 w8) (fun p _ => m2 - (intOf p).toNat)
      case atStart => exact ⟨0, by omega, rfl, hbw⟩
      case round =>
        obtain ⟨p, hpm, rfl, hbp⟩ := hrel
        obtain ⟨w8, rfl⟩ : ∃ w8, w8 = wr := ⟨_, rfl⟩
        have hG8 := own_keep hG7 hbp
        have hI8 := (OwnAt.farInts hG8).ints
        by_cases hltp : p < m2
        · obtain ⟨z, bz, oz, HZ, hez, hgz, cz⟩ := hI8.get hlt
          injection hez with hez; injection hez with e1 e2; subst e1; subst e2
          obtain ⟨x, bx, ox, HX, hex, hgc, c0, c1, c2, c3⟩ := CarsAt.get (hC7.below hbp).slAt hlt
          injection hex with hex; injection hex with e1 e2; subst e1; subst e2
          obtain ⟨y2, bp, op, HY, hep, hgl, p0, p1, p2⟩ := PlacesAt.get (hP7.below hbp).slAt hltp
          injection hep with hep; injection hep with e1 e2; subst e1; subst e2
          simp only [Nat.zero_add] at cz c0 c1 c2 c3 p0 p1 p2
          have hla : (a : Int) < (q : Int) := by omega
          have hlp : (p : Int) < (m2 : Int) := by omega
          have ha0 : (0 : Int) ≤ (a : Int) := by omega
          have hp0 : (0 : Int) ≤ (p : Int) := by omega
          by_cases hz0 : z < 0
          · have hzd : decide (z < 0) = true := by simpa using hz0
            cases hHas : hasB B (p : Int)
            · have HNF := Lib.hid (HFREE.out a p z x y2 HZ.out hz0 hHas HX.out HY.out)
              clear HX HY HZ hz0
              go_upto_region 16 with fail
              refine wp_region_held_drew (S := (fun w' => w'.cell? ⟨gX, a, none⟩ = some (.int .i64 z) ∧ w'.cell? ⟨g, a * 4, none⟩ = some (.int .i64 x.f) ∧ w'.cell? ⟨g, a * 4 + 1, none⟩ = some (.int .i64 x.t) ∧ w'.cell? ⟨g, a * 4 + 2, none⟩ = some (.int .i64 x.r) ∧ w'.cell? ⟨g, a * 4 + 3, none⟩ = some (.int .i64 x.u) ∧ w'.cell? ⟨g2, p * 3, none⟩ = some (.int .i64 y2.f) ∧ w'.cell? ⟨g2, p * 3 + 1, none⟩ = some (.int .i64 y2.t) ∧ w'.cell? ⟨g2, p * 3 + 2, none⟩ = some (.int .i64 y2.r))) (by kernel_rfl) ?_ (fun hHeld => ?_)
              · (try dsimp only); first | exact ⟨cz, c0, c1, c2, c3, p0, p1, p2⟩ | exact k8
              refine wpAnyH_take (i := 0) (v := ?vq1_0) (by simp only [List.getElem?_toArray, List.getElem?_cons_zero]; rfl) (by kernel_rfl) (by kernel_rfl) (by kernel_rfl) (by exact fun _ _ _ h => h) (Or.inl ⟨by rfl, ?hq1_0⟩) hHeld ?rq1_0
              case hq1_0 => (intro w hSw; (try dsimp only at hSw); go_simp; (try with_reducible rfl))
              try simp only [put_laws]
              refine wpAnyH_take (i := 1) (v := ?vq1_1) (by simp only [List.getElem?_toArray, List.getElem?_cons_succ, List.getElem?_cons_zero]; rfl) (by kernel_rfl) (by kernel_rfl) (by kernel_rfl) (by exact fun _ _ _ h => h) (Or.inl ⟨by rfl, ?hq1_1⟩) hHeld ?rq1_1
              case hq1_1 => (intro w hSw; (try dsimp only at hSw); go_simp; (try with_reducible rfl))
              try simp only [put_laws]
              refine wpAnyH_take (i := 2) (v := ?vq1_2) (by simp only [List.getElem?_toArray, List.getElem?_cons_succ, List.getElem?_cons_zero]; rfl) (by kernel_rfl) (by kernel_rfl) (by kernel_rfl) (by exact fun _ _ _ h => h) (Or.inl ⟨by rfl, ?hq1_2⟩) hHeld ?rq1_2
              case hq1_2 => (intro w hSw; (try dsimp only at hSw); go_simp; (try with_reducible rfl))
              try simp only [put_laws]
              refine wpAnyH_take (i := 3) (v := ?vq1_3) (by simp only [List.getElem?_toArray, List.getElem?_cons_succ, List.getElem?_cons_zero]; rfl) (by kernel_rfl) (by kernel_rfl) (by kernel_rfl) (by exact fun _ _ _ h => h) (Or.inl ⟨by rfl, ?hq1_3⟩) hHeld ?rq1_3
              case hq1_3 => (intro w hSw; (try dsimp only at hSw); go_simp; (try with_reducible rfl))
              try simp only [put_laws]
              refine wpAnyH_take (i := 4) (v := ?vq1_4) (by simp only [List.getElem?_toArray, List.getElem?_cons_succ, List.getElem?_cons_zero]; rfl) (by kernel_rfl) (by kernel_rfl) (by kernel_rfl) (by exact fun _ _ _ h => h) (Or.inl ⟨by rfl, ?hq1_4⟩) hHeld ?rq1_4
              case hq1_4 => (intro w hSw; (try dsimp only at hSw); go_simp; (try with_reducible rfl))
              try simp only [put_laws]
              refine wpAnyH_take (i := 5) (v := ?vq1_5) (by simp only [List.getElem?_toArray, List.getElem?_cons_succ, List.getElem?_cons_zero]; rfl) (by kernel_rfl) (by kernel_rfl) (by kernel_rfl) (by exact fun _ _ _ h => h) (Or.inl ⟨by rfl, ?hq1_5⟩) hHeld ?rq1_5
              case hq1_5 => (intro w hSw; (try dsimp only at hSw); go_simp; (try with_reducible rfl))
              try simp only [put_laws]
              refine wpAnyH_take (i := 6) (v := ?vq1_6) (by simp only [List.getElem?_toArray, List.getElem?_cons_succ, List.getElem?_cons_zero]; rfl) (by kernel_rfl) (by kernel_rfl) (by kernel_rfl) (by exact fun _ _ _ h => h) (Or.inl ⟨by rfl, ?hq1_6⟩) hHeld ?rq1_6
              case hq1_6 => (intro w hSw; (try dsimp only at hSw); go_simp; (try with_reducible rfl))
              try simp only [put_laws]
              refine wpAnyH_take (i := 7) (v := ?vq1_7) (by simp only [List.getElem?_toArray, List.getElem?_cons_succ, List.getElem?_cons_zero]; rfl) (by kernel_rfl) (by kernel_rfl) (by kernel_rfl) (by exact fun _ _ _ h => h) (Or.inl ⟨by rfl, ?hq1_7⟩) hHeld ?rq1_7
              case hq1_7 => (intro w hSw; (try dsimp only at hSw); go_simp; (try with_reducible rfl))
              try simp only [put_laws]
              refine wpAnyH_ready (rs := [8]) (by kernel_rfl) (by simp) ?_
              refine AllReadyH.cons (by simp only [List.getElem?_toArray, List.getElem?_cons_succ, List.getElem?_cons_zero]; rfl) (fun K hK => ?_) AllReadyH.nil
              go_simp
              refine (hasInt_no _ q xc B (p : Int) _ (by omega) (hI8.below (Below.refl _ _).drew) hHas).mono ?_; rintro e w9 ⟨rfl, rfl⟩
              refine hK.out _ _ ?_ (fun hHeld => ?_)
              · (try dsimp only); first | exact ⟨cz, c0, c1, c2, c3, p0, p1, p2⟩ | exact k8
              clear hK K
              try simp only [put_laws]
              refine wpAnyH_take (i := 9) (v := ?vq1_9) (by simp only [List.getElem?_toArray, List.getElem?_cons_succ, List.getElem?_cons_zero]; rfl) (by kernel_rfl) (by kernel_rfl) (by kernel_rfl) (by exact fun _ _ _ h => h) (Or.inl ⟨by rfl, ?hq1_9⟩) hHeld ?rq1_9
              case hq1_9 => (intro w hSw; (try dsimp only at hSw); go_simp; (try with_reducible rfl))
              try simp only [put_laws]
              refine wpAnyH_take (i := 10) (v := ?vq1_10) (by simp only [List.getElem?_toArray, List.getElem?_cons_succ, List.getElem?_cons_zero]; rfl) (by kernel_rfl) (by kernel_rfl) (by kernel_rfl) (by exact fun _ _ _ h => h) (Or.inl ⟨by rfl, ?hq1_10⟩) hHeld ?rq1_10
              case hq1_10 => (intro w hSw; (try dsimp only at hSw); go_simp; (try with_reducible rfl))
              try simp only [put_laws]
              refine wpAnyH_take (i := 11) (v := ?vq1_11) (by simp only [List.getElem?_toArray, List.getElem?_cons_succ, List.getElem?_cons_zero]; rfl) (by kernel_rfl) (by kernel_rfl) (by kernel_rfl) (by exact fun _ _ _ h => h) (Or.inl ⟨by rfl, ?hq1_11⟩) hHeld ?rq1_11
              case hq1_11 => (intro w hSw; (try dsimp only at hSw); go_simp; (try with_reducible rfl))
              try simp only [put_laws]
              refine wpAnyH_take (i := 12) (v := ?vq1_12) (by simp only [List.getElem?_toArray, List.getElem?_cons_succ, List.getElem?_cons_zero]; rfl) (by kernel_rfl) (by kernel_rfl) (by kernel_rfl) (by exact fun _ _ _ h => h) (Or.inl ⟨by rfl, ?hq1_12⟩) hHeld ?rq1_12
              case hq1_12 => (intro w hSw; (try dsimp only at hSw); go_simp; (try with_reducible rfl))
              try simp only [put_laws]
              refine wpAnyH_take (i := 13) (v := ?vq1_13) (by simp only [List.getElem?_toArray, List.getElem?_cons_succ, List.getElem?_cons_zero]; rfl) (by kernel_rfl) (by kernel_rfl) (by kernel_rfl) (by exact fun _ _ _ h => h) (Or.inl ⟨by rfl, ?hq1_13⟩) hHeld ?rq1_13
              case hq1_13 => (intro w hSw; (try dsimp only at hSw); go_simp; (try with_reducible rfl))
              try simp only [put_laws]
              refine wpAnyH_take (i := 14) (v := ?vq1_14) (by simp only [List.getElem?_toArray, List.getElem?_cons_succ, List.getElem?_cons_zero]; rfl) (by kernel_rfl) (by kernel_rfl) (by kernel_rfl) (by exact fun _ _ _ h => h) (Or.inl ⟨by rfl, ?hq1_14⟩) hHeld ?rq1_14
              case hq1_14 => (intro w hSw; (try dsimp only at hSw); go_simp; (try with_reducible rfl))
              try simp only [put_laws]
              refine wpAnyH_take (i := 15) (v := ?vq1_15) (by simp only [List.getElem?_toArray, List.getElem?_cons_succ, List.getElem?_cons_zero]; rfl) (by kernel_rfl) (by kernel_rfl) (by kernel_rfl) (by exact fun _ _ _ h => h) (Or.inl ⟨by rfl, ?hq1_15⟩) hHeld ?rq1_15
              case hq1_15 => (intro w hSw; (try dsimp only at hSw); go_simp; (try with_reducible rfl))
              try simp only [put_laws]
              refine wpAnyH_take (i := 16) (v := ?vq1_16) (by simp only [List.getElem?_toArray, List.getElem?_cons_succ, List.getElem?_cons_zero]; rfl) (by kernel_rfl) (by kernel_rfl) (by kernel_rfl) (by exact fun _ _ _ h => h) (Or.inl ⟨by rfl, ?hq1_16⟩) hHeld ?rq1_16
              case hq1_16 => (intro w hSw; (try dsimp only at hSw); go_simp; (try with_reducible rfl))
              try simp only [put_laws]
              refine wpAnyH_take (i := 17) (v := ?vq1_17) (by simp only [List.getElem?_toArray, List.getElem?_cons_succ, List.getElem?_cons_zero]; rfl) (by kernel_rfl) (by kernel_rfl) (by kernel_rfl) (by exact fun _ _ _ h => h) (Or.inl ⟨by rfl, ?hq1_17⟩) hHeld ?rq1_17
              case hq1_17 => (intro w hSw; (try dsimp only at hSw); go_simp; (try with_reducible rfl))
              try simp only [put_laws]
              refine wpAnyH_take (i := 18) (v := ?vq1_18) (by simp only [List.getElem?_toArray, List.getElem?_cons_succ, List.getElem?_cons_zero]; rfl) (by kernel_rfl) (by kernel_rfl) (by kernel_rfl) (by exact fun _ _ _ h => h) (Or.inl ⟨by rfl, ?hq1_18⟩) hHeld ?rq1_18
              case hq1_18 => (intro w hSw; (try dsimp only at hSw); go_simp; (try with_reducible rfl))
              try simp only [put_laws]
              refine wpAnyH_take (i := 19) (v := ?vq1_19) (by simp only [List.getElem?_toArray, List.getElem?_cons_succ, List.getElem?_cons_zero]; rfl) (by kernel_rfl) (by kernel_rfl) (by kernel_rfl) (by exact fun _ _ _ h => h) (Or.inl ⟨by rfl, ?hq1_19⟩) hHeld ?rq1_19
              case hq1_19 => (intro w hSw; (try dsimp only at hSw); go_simp; (try with_reducible rfl))
              try simp only [put_laws]
              refine wpAnyH_ready (rs := [20]) (by kernel_rfl) (by simp) ?_
              refine AllReadyH.cons (by simp only [List.getElem?_toArray, List.getElem?_cons_succ, List.getElem?_cons_zero]; rfl) (fun K hK => ?_) AllReadyH.nil
              go_simp
              refine (fits_no x y2 _ HNF.out).mono ?_; rintro e w9 ⟨rfl, hb9⟩; have k8 := (And.intro ((hb9.cell (p := ⟨gX, a, none⟩) hgz).trans cz) (And.intro ((hb9.cell (p := ⟨g, a * 4, none⟩) hgc).trans c0) (And.intro ((hb9.cell (p := ⟨g, a * 4 + 1, none⟩) hgc).trans c1) (And.intro ((hb9.cell (p := ⟨g, a * 4 + 2, none⟩) hgc).trans c2) (And.intro ((hb9.cell (p := ⟨g, a * 4 + 3, none⟩) hgc).trans c3) (And.intro ((hb9.cell (p := ⟨g2, p * 3, none⟩) hgl).trans p0) (And.intro ((hb9.cell (p := ⟨g2, p * 3 + 1, none⟩) hgl).trans p1) ((hb9.cell (p := ⟨g2, p * 3 + 2, none⟩) hgl).trans p2))))))))
              refine hK.out _ _ ?_ (fun hHeld => ?_)
              · (try dsimp only); first | exact ⟨cz, c0, c1, c2, c3, p0, p1, p2⟩ | exact k8
              clear hK K
              try simp only [put_laws]
              refine wpAnyH_take (i := 21) (v := ?vq1_21) (by simp only [List.getElem?_toArray, List.getElem?_cons_succ, List.getElem?_cons_zero]; rfl) (by kernel_rfl) (by kernel_rfl) (by kernel_rfl) (by exact fun _ _ _ h => h) (Or.inl ⟨by rfl, ?hq1_21⟩) hHeld ?rq1_21
              case hq1_21 => (intro w hSw; (try dsimp only at hSw); go_simp; (try with_reducible rfl))
              try simp only [put_laws]
              refine wpAnyH_done (by kernel_rfl) ?_ _
              have hbn : Below w7.heap.size w7 w9 := hbp.trans ((((Below.refl w8.heap.size w8).drew).trans (hb9.mono (Nat.le_refl _))).mono hbp.size)
              clear k8
              clear hHeld cz c0 c1 c2 c3 p0 p1 p2
              go_wp2
              go_roundw
              case rel => exact ⟨p + 1, by omega, by go_num, hbn⟩
              case measure => simp [intOf]; omega
            · clear HX HY HZ hz0
              go_upto_region 16 with fail
              refine wp_region_held_drew (S := (fun w' => w'.cell? ⟨gX, a, none⟩ = some (.int .i64 z) ∧ w'.cell? ⟨g, a * 4, none⟩ = some (.int .i64 x.f) ∧ w'.cell? ⟨g, a * 4 + 1, none⟩ = some (.int .i64 x.t) ∧ w'.cell? ⟨g, a * 4 + 2, none⟩ = some (.int .i64 x.r) ∧ w'.cell? ⟨g, a * 4 + 3, none⟩ = some (.int .i64 x.u) ∧ w'.cell? ⟨g2, p * 3, none⟩ = some (.int .i64 y2.f) ∧ w'.cell? ⟨g2, p * 3 + 1, none⟩ = some (.int .i64 y2.t) ∧ w'.cell? ⟨g2, p * 3 + 2, none⟩ = some (.int .i64 y2.r))) (by kernel_rfl) ?_ (fun hHeld => ?_)
              · (try dsimp only); first | exact ⟨cz, c0, c1, c2, c3, p0, p1, p2⟩ | exact k8
              refine wpAnyH_take (i := 0) (v := ?vq2_0) (by simp only [List.getElem?_toArray, List.getElem?_cons_zero]; rfl) (by kernel_rfl) (by kernel_rfl) (by kernel_rfl) (by exact fun _ _ _ h => h) (Or.inl ⟨by rfl, ?hq2_0⟩) hHeld ?rq2_0
              case hq2_0 => (intro w hSw; (try dsimp only at hSw); go_simp; (try with_reducible rfl))
              try simp only [put_laws]
              refine wpAnyH_take (i := 1) (v := ?vq2_1) (by simp only [List.getElem?_toArray, List.getElem?_cons_succ, List.getElem?_cons_zero]; rfl) (by kernel_rfl) (by kernel_rfl) (by kernel_rfl) (by exact fun _ _ _ h => h) (Or.inl ⟨by rfl, ?hq2_1⟩) hHeld ?rq2_1
              case hq2_1 => (intro w hSw; (try dsimp only at hSw); go_simp; (try with_reducible rfl))
              try simp only [put_laws]
              refine wpAnyH_take (i := 2) (v := ?vq2_2) (by simp only [List.getElem?_toArray, List.getElem?_cons_succ, List.getElem?_cons_zero]; rfl) (by kernel_rfl) (by kernel_rfl) (by kernel_rfl) (by exact fun _ _ _ h => h) (Or.inl ⟨by rfl, ?hq2_2⟩) hHeld ?rq2_2
              case hq2_2 => (intro w hSw; (try dsimp only at hSw); go_simp; (try with_reducible rfl))
              try simp only [put_laws]
              refine wpAnyH_take (i := 3) (v := ?vq2_3) (by simp only [List.getElem?_toArray, List.getElem?_cons_succ, List.getElem?_cons_zero]; rfl) (by kernel_rfl) (by kernel_rfl) (by kernel_rfl) (by exact fun _ _ _ h => h) (Or.inl ⟨by rfl, ?hq2_3⟩) hHeld ?rq2_3
              case hq2_3 => (intro w hSw; (try dsimp only at hSw); go_simp; (try with_reducible rfl))
              try simp only [put_laws]
              refine wpAnyH_take (i := 4) (v := ?vq2_4) (by simp only [List.getElem?_toArray, List.getElem?_cons_succ, List.getElem?_cons_zero]; rfl) (by kernel_rfl) (by kernel_rfl) (by kernel_rfl) (by exact fun _ _ _ h => h) (Or.inl ⟨by rfl, ?hq2_4⟩) hHeld ?rq2_4
              case hq2_4 => (intro w hSw; (try dsimp only at hSw); go_simp; (try with_reducible rfl))
              try simp only [put_laws]
              refine wpAnyH_take (i := 5) (v := ?vq2_5) (by simp only [List.getElem?_toArray, List.getElem?_cons_succ, List.getElem?_cons_zero]; rfl) (by kernel_rfl) (by kernel_rfl) (by kernel_rfl) (by exact fun _ _ _ h => h) (Or.inl ⟨by rfl, ?hq2_5⟩) hHeld ?rq2_5
              case hq2_5 => (intro w hSw; (try dsimp only at hSw); go_simp; (try with_reducible rfl))
              try simp only [put_laws]
              refine wpAnyH_take (i := 6) (v := ?vq2_6) (by simp only [List.getElem?_toArray, List.getElem?_cons_succ, List.getElem?_cons_zero]; rfl) (by kernel_rfl) (by kernel_rfl) (by kernel_rfl) (by exact fun _ _ _ h => h) (Or.inl ⟨by rfl, ?hq2_6⟩) hHeld ?rq2_6
              case hq2_6 => (intro w hSw; (try dsimp only at hSw); go_simp; (try with_reducible rfl))
              try simp only [put_laws]
              refine wpAnyH_take (i := 7) (v := ?vq2_7) (by simp only [List.getElem?_toArray, List.getElem?_cons_succ, List.getElem?_cons_zero]; rfl) (by kernel_rfl) (by kernel_rfl) (by kernel_rfl) (by exact fun _ _ _ h => h) (Or.inl ⟨by rfl, ?hq2_7⟩) hHeld ?rq2_7
              case hq2_7 => (intro w hSw; (try dsimp only at hSw); go_simp; (try with_reducible rfl))
              try simp only [put_laws]
              refine wpAnyH_ready (rs := [8]) (by kernel_rfl) (by simp) ?_
              refine AllReadyH.cons (by simp only [List.getElem?_toArray, List.getElem?_cons_succ, List.getElem?_cons_zero]; rfl) (fun K hK => ?_) AllReadyH.nil
              go_simp
              refine (hasInt_yes _ q xc B (p : Int) _ (by omega) (hI8.below (Below.refl _ _).drew) hHas).mono ?_; rintro e w9 ⟨rfl, rfl⟩
              refine hK.out _ _ ?_ (fun hHeld => ?_)
              · (try dsimp only); first | exact ⟨cz, c0, c1, c2, c3, p0, p1, p2⟩ | exact k8
              clear hK K
              try simp only [put_laws]
              refine wpAnyH_take (i := 9) (v := ?vq2_9) (by simp only [List.getElem?_toArray, List.getElem?_cons_succ, List.getElem?_cons_zero]; rfl) (by kernel_rfl) (by kernel_rfl) (by kernel_rfl) (by exact fun _ _ _ h => h) (Or.inl ⟨by rfl, ?hq2_9⟩) hHeld ?rq2_9
              case hq2_9 => (intro w hSw; (try dsimp only at hSw); go_simp; (try with_reducible rfl))
              try simp only [put_laws]
              refine wpAnyH_take (i := 10) (v := ?vq2_10) (by simp only [List.getElem?_toArray, List.getElem?_cons_succ, List.getElem?_cons_zero]; rfl) (by kernel_rfl) (by kernel_rfl) (by kernel_rfl) (by exact fun _ _ _ h => h) (Or.inl ⟨by rfl, ?hq2_10⟩) hHeld ?rq2_10
              case hq2_10 => (intro w hSw; (try dsimp only at hSw); go_simp; (try with_reducible rfl))
              try simp only [put_laws]
              refine wpAnyH_take (i := 11) (v := ?vq2_11) (by simp only [List.getElem?_toArray, List.getElem?_cons_succ, List.getElem?_cons_zero]; rfl) (by kernel_rfl) (by kernel_rfl) (by kernel_rfl) (by exact fun _ _ _ h => h) (Or.inl ⟨by rfl, ?hq2_11⟩) hHeld ?rq2_11
              case hq2_11 => (intro w hSw; (try dsimp only at hSw); go_simp; (try with_reducible rfl))
              try simp only [put_laws]
              refine wpAnyH_take (i := 12) (v := undef) (by simp only [List.getElem?_toArray, List.getElem?_cons_succ, List.getElem?_cons_zero]; rfl) (by kernel_rfl) (by kernel_rfl) (by kernel_rfl) (by exact fun _ _ _ h => h) (Or.inr ⟨by rfl, rfl⟩) hHeld ?_
              try simp only [put_laws]
              refine wpAnyH_take (i := 13) (v := undef) (by simp only [List.getElem?_toArray, List.getElem?_cons_succ, List.getElem?_cons_zero]; rfl) (by kernel_rfl) (by kernel_rfl) (by kernel_rfl) (by exact fun _ _ _ h => h) (Or.inr ⟨by rfl, rfl⟩) hHeld ?_
              try simp only [put_laws]
              refine wpAnyH_take (i := 14) (v := undef) (by simp only [List.getElem?_toArray, List.getElem?_cons_succ, List.getElem?_cons_zero]; rfl) (by kernel_rfl) (by kernel_rfl) (by kernel_rfl) (by exact fun _ _ _ h => h) (Or.inr ⟨by rfl, rfl⟩) hHeld ?_
              try simp only [put_laws]
              refine wpAnyH_take (i := 15) (v := undef) (by simp only [List.getElem?_toArray, List.getElem?_cons_succ, List.getElem?_cons_zero]; rfl) (by kernel_rfl) (by kernel_rfl) (by kernel_rfl) (by exact fun _ _ _ h => h) (Or.inr ⟨by rfl, rfl⟩) hHeld ?_
              try simp only [put_laws]
              refine wpAnyH_take (i := 16) (v := undef) (by simp only [List.getElem?_toArray, List.getElem?_cons_succ, List.getElem?_cons_zero]; rfl) (by kernel_rfl) (by kernel_rfl) (by kernel_rfl) (by exact fun _ _ _ h => h) (Or.inr ⟨by rfl, rfl⟩) hHeld ?_
              try simp only [put_laws]
              refine wpAnyH_take (i := 17) (v := undef) (by simp only [List.getElem?_toArray, List.getElem?_cons_succ, List.getElem?_cons_zero]; rfl) (by kernel_rfl) (by kernel_rfl) (by kernel_rfl) (by exact fun _ _ _ h => h) (Or.inr ⟨by rfl, rfl⟩) hHeld ?_
              try simp only [put_laws]
              refine wpAnyH_take (i := 18) (v := undef) (by simp only [List.getElem?_toArray, List.getElem?_cons_succ, List.getElem?_cons_zero]; rfl) (by kernel_rfl) (by kernel_rfl) (by kernel_rfl) (by exact fun _ _ _ h => h) (Or.inr ⟨by rfl, rfl⟩) hHeld ?_
              try simp only [put_laws]
              refine wpAnyH_take (i := 19) (v := undef) (by simp only [List.getElem?_toArray, List.getElem?_cons_succ, List.getElem?_cons_zero]; rfl) (by kernel_rfl) (by kernel_rfl) (by kernel_rfl) (by exact fun _ _ _ h => h) (Or.inr ⟨by rfl, rfl⟩) hHeld ?_
              try simp only [put_laws]
              refine wpAnyH_take (i := 20) (v := undef) (by simp only [List.getElem?_toArray, List.getElem?_cons_succ, List.getElem?_cons_zero]; rfl) (by kernel_rfl) (by kernel_rfl) (by kernel_rfl) (by exact fun _ _ _ h => h) (Or.inr ⟨by rfl, rfl⟩) hHeld ?_
              try simp only [put_laws]
              refine wpAnyH_take (i := 21) (v := ?vq2_21) (by simp only [List.getElem?_toArray, List.getElem?_cons_succ, List.getElem?_cons_zero]; rfl) (by kernel_rfl) (by kernel_rfl) (by kernel_rfl) (by exact fun _ _ _ h => h) (Or.inl ⟨by rfl, ?hq2_21⟩) hHeld ?rq2_21
              case hq2_21 => (intro w hSw; (try dsimp only at hSw); go_simp; (try with_reducible rfl))
              try simp only [put_laws]
              refine wpAnyH_done (by kernel_rfl) ?_ _
              have hbn : Below w7.heap.size w7 w8.drew := hbp.trans (((Below.refl w8.heap.size w8).drew).mono hbp.size)
              clear hHeld cz c0 c1 c2 c3 p0 p1 p2
              go_wp2
              go_roundw
              case rel => exact ⟨p + 1, by omega, by go_num, hbn⟩
              case measure => simp [intOf]; omega
          · have hzd : decide (z < 0) = false := by simpa using hz0
            clear HX HY HZ hz0
            go_upto_region 16 with fail
            refine wp_region_held_drew (S := (fun w' => w'.cell? ⟨gX, a, none⟩ = some (.int .i64 z) ∧ w'.cell? ⟨g, a * 4, none⟩ = some (.int .i64 x.f) ∧ w'.cell? ⟨g, a * 4 + 1, none⟩ = some (.int .i64 x.t) ∧ w'.cell? ⟨g, a * 4 + 2, none⟩ = some (.int .i64 x.r) ∧ w'.cell? ⟨g, a * 4 + 3, none⟩ = some (.int .i64 x.u) ∧ w'.cell? ⟨g2, p * 3, none⟩ = some (.int .i64 y2.f) ∧ w'.cell? ⟨g2, p * 3 + 1, none⟩ = some (.int .i64 y2.t) ∧ w'.cell? ⟨g2, p * 3 + 2, none⟩ = some (.int .i64 y2.r))) (by kernel_rfl) ?_ (fun hHeld => ?_)
            · (try dsimp only); first | exact ⟨cz, c0, c1, c2, c3, p0, p1, p2⟩ | exact k8
            refine wpAnyH_take (i := 0) (v := ?vq3_0) (by simp only [List.getElem?_toArray, List.getElem?_cons_zero]; rfl) (by kernel_rfl) (by kernel_rfl) (by kernel_rfl) (by exact fun _ _ _ h => h) (Or.inl ⟨by rfl, ?hq3_0⟩) hHeld ?rq3_0
            case hq3_0 => (intro w hSw; (try dsimp only at hSw); go_simp; (try with_reducible rfl))
            try simp only [put_laws]
            refine wpAnyH_take (i := 1) (v := ?vq3_1) (by simp only [List.getElem?_toArray, List.getElem?_cons_succ, List.getElem?_cons_zero]; rfl) (by kernel_rfl) (by kernel_rfl) (by kernel_rfl) (by exact fun _ _ _ h => h) (Or.inl ⟨by rfl, ?hq3_1⟩) hHeld ?rq3_1
            case hq3_1 => (intro w hSw; (try dsimp only at hSw); go_simp; (try with_reducible rfl))
            try simp only [put_laws]
            refine wpAnyH_take (i := 2) (v := ?vq3_2) (by simp only [List.getElem?_toArray, List.getElem?_cons_succ, List.getElem?_cons_zero]; rfl) (by kernel_rfl) (by kernel_rfl) (by kernel_rfl) (by exact fun _ _ _ h => h) (Or.inl ⟨by rfl, ?hq3_2⟩) hHeld ?rq3_2
            case hq3_2 => (intro w hSw; (try dsimp only at hSw); go_simp; (try with_reducible rfl))
            try simp only [put_laws]
            refine wpAnyH_take (i := 3) (v := ?vq3_3) (by simp only [List.getElem?_toArray, List.getElem?_cons_succ, List.getElem?_cons_zero]; rfl) (by kernel_rfl) (by kernel_rfl) (by kernel_rfl) (by exact fun _ _ _ h => h) (Or.inl ⟨by rfl, ?hq3_3⟩) hHeld ?rq3_3
            case hq3_3 => (intro w hSw; (try dsimp only at hSw); go_simp; (try with_reducible rfl))
            try simp only [put_laws]
            refine wpAnyH_take (i := 4) (v := ?vq3_4) (by simp only [List.getElem?_toArray, List.getElem?_cons_succ, List.getElem?_cons_zero]; rfl) (by kernel_rfl) (by kernel_rfl) (by kernel_rfl) (by exact fun _ _ _ h => h) (Or.inl ⟨by rfl, ?hq3_4⟩) hHeld ?rq3_4
            case hq3_4 => (intro w hSw; (try dsimp only at hSw); go_simp; (try with_reducible rfl))
            try simp only [put_laws]
            refine wpAnyH_take (i := 5) (v := ?vq3_5) (by simp only [List.getElem?_toArray, List.getElem?_cons_succ, List.getElem?_cons_zero]; rfl) (by kernel_rfl) (by kernel_rfl) (by kernel_rfl) (by exact fun _ _ _ h => h) (Or.inl ⟨by rfl, ?hq3_5⟩) hHeld ?rq3_5
            case hq3_5 => (intro w hSw; (try dsimp only at hSw); go_simp; (try with_reducible rfl))
            try simp only [put_laws]
            refine wpAnyH_take (i := 6) (v := undef) (by simp only [List.getElem?_toArray, List.getElem?_cons_succ, List.getElem?_cons_zero]; rfl) (by kernel_rfl) (by kernel_rfl) (by kernel_rfl) (by exact fun _ _ _ h => h) (Or.inr ⟨by rfl, rfl⟩) hHeld ?_
            try simp only [put_laws]
            refine wpAnyH_take (i := 7) (v := undef) (by simp only [List.getElem?_toArray, List.getElem?_cons_succ, List.getElem?_cons_zero]; rfl) (by kernel_rfl) (by kernel_rfl) (by kernel_rfl) (by exact fun _ _ _ h => h) (Or.inr ⟨by rfl, rfl⟩) hHeld ?_
            try simp only [put_laws]
            refine wpAnyH_take (i := 8) (v := undef) (by simp only [List.getElem?_toArray, List.getElem?_cons_succ, List.getElem?_cons_zero]; rfl) (by kernel_rfl) (by kernel_rfl) (by kernel_rfl) (by exact fun _ _ _ h => h) (Or.inr ⟨by rfl, rfl⟩) hHeld ?_
            try simp only [put_laws]
            refine wpAnyH_take (i := 9) (v := undef) (by simp only [List.getElem?_toArray, List.getElem?_cons_succ, List.getElem?_cons_zero]; rfl) (by kernel_rfl) (by kernel_rfl) (by kernel_rfl) (by exact fun _ _ _ h => h) (Or.inr ⟨by rfl, rfl⟩) hHeld ?_
            try simp only [put_laws]
            refine wpAnyH_take (i := 10) (v := ?vq3_10) (by simp only [List.getElem?_toArray, List.getElem?_cons_succ, List.getElem?_cons_zero]; rfl) (by kernel_rfl) (by kernel_rfl) (by kernel_rfl) (by exact fun _ _ _ h => h) (Or.inl ⟨by rfl, ?hq3_10⟩) hHeld ?rq3_10
            case hq3_10 => (intro w hSw; (try dsimp only at hSw); go_simp; (try with_reducible rfl))
            try simp only [put_laws]
            refine wpAnyH_take (i := 11) (v := ?vq3_11) (by simp only [List.getElem?_toArray, List.getElem?_cons_succ, List.getElem?_cons_zero]; rfl) (by kernel_rfl) (by kernel_rfl) (by kernel_rfl) (by exact fun _ _ _ h => h) (Or.inl ⟨by rfl, ?hq3_11⟩) hHeld ?rq3_11
            case hq3_11 => (intro w hSw; (try dsimp only at hSw); go_simp; (try with_reducible rfl))
            try simp only [put_laws]
            refine wpAnyH_take (i := 12) (v := undef) (by simp only [List.getElem?_toArray, List.getElem?_cons_succ, List.getElem?_cons_zero]; rfl) (by kernel_rfl) (by kernel_rfl) (by kernel_rfl) (by exact fun _ _ _ h => h) (Or.inr ⟨by rfl, rfl⟩) hHeld ?_
            try simp only [put_laws]
            refine wpAnyH_take (i := 13) (v := undef) (by simp only [List.getElem?_toArray, List.getElem?_cons_succ, List.getElem?_cons_zero]; rfl) (by kernel_rfl) (by kernel_rfl) (by kernel_rfl) (by exact fun _ _ _ h => h) (Or.inr ⟨by rfl, rfl⟩) hHeld ?_
            try simp only [put_laws]
            refine wpAnyH_take (i := 14) (v := undef) (by simp only [List.getElem?_toArray, List.getElem?_cons_succ, List.getElem?_cons_zero]; rfl) (by kernel_rfl) (by kernel_rfl) (by kernel_rfl) (by exact fun _ _ _ h => h) (Or.inr ⟨by rfl, rfl⟩) hHeld ?_
            try simp only [put_laws]
            refine wpAnyH_take (i := 15) (v := undef) (by simp only [List.getElem?_toArray, List.getElem?_cons_succ, List.getElem?_cons_zero]; rfl) (by kernel_rfl) (by kernel_rfl) (by kernel_rfl) (by exact fun _ _ _ h => h) (Or.inr ⟨by rfl, rfl⟩) hHeld ?_
            try simp only [put_laws]
            refine wpAnyH_take (i := 16) (v := undef) (by simp only [List.getElem?_toArray, List.getElem?_cons_succ, List.getElem?_cons_zero]; rfl) (by kernel_rfl) (by kernel_rfl) (by kernel_rfl) (by exact fun _ _ _ h => h) (Or.inr ⟨by rfl, rfl⟩) hHeld ?_
            try simp only [put_laws]
            refine wpAnyH_take (i := 17) (v := undef) (by simp only [List.getElem?_toArray, List.getElem?_cons_succ, List.getElem?_cons_zero]; rfl) (by kernel_rfl) (by kernel_rfl) (by kernel_rfl) (by exact fun _ _ _ h => h) (Or.inr ⟨by rfl, rfl⟩) hHeld ?_
            try simp only [put_laws]
            refine wpAnyH_take (i := 18) (v := undef) (by simp only [List.getElem?_toArray, List.getElem?_cons_succ, List.getElem?_cons_zero]; rfl) (by kernel_rfl) (by kernel_rfl) (by kernel_rfl) (by exact fun _ _ _ h => h) (Or.inr ⟨by rfl, rfl⟩) hHeld ?_
            try simp only [put_laws]
            refine wpAnyH_take (i := 19) (v := undef) (by simp only [List.getElem?_toArray, List.getElem?_cons_succ, List.getElem?_cons_zero]; rfl) (by kernel_rfl) (by kernel_rfl) (by kernel_rfl) (by exact fun _ _ _ h => h) (Or.inr ⟨by rfl, rfl⟩) hHeld ?_
            try simp only [put_laws]
            refine wpAnyH_take (i := 20) (v := undef) (by simp only [List.getElem?_toArray, List.getElem?_cons_succ, List.getElem?_cons_zero]; rfl) (by kernel_rfl) (by kernel_rfl) (by kernel_rfl) (by exact fun _ _ _ h => h) (Or.inr ⟨by rfl, rfl⟩) hHeld ?_
            try simp only [put_laws]
            refine wpAnyH_take (i := 21) (v := ?vq3_21) (by simp only [List.getElem?_toArray, List.getElem?_cons_succ, List.getElem?_cons_zero]; rfl) (by kernel_rfl) (by kernel_rfl) (by kernel_rfl) (by exact fun _ _ _ h => h) (Or.inl ⟨by rfl, ?hq3_21⟩) hHeld ?rq3_21
            case hq3_21 => (intro w hSw; (try dsimp only at hSw); go_simp; (try with_reducible rfl))
            try simp only [put_laws]
            refine wpAnyH_done (by kernel_rfl) ?_ _
            have hbn : Below w7.heap.size w7 w8.drew := hbp.trans (((Below.refl w8.heap.size w8).drew).mono hbp.size)
            clear hHeld cz c0 c1 c2 c3 p0 p1 p2
            go_wp2
            go_roundw
            case rel => exact ⟨p + 1, by omega, by go_num, hbn⟩
            case measure => simp [intOf]; omega
        · clear hbw
          go_wp2
          go_loopw [9, 10] (fun vb _ w9 => ∃ b : Nat, b ≤ a ∧ vb = .int .i64 b ∧ Below w7.heap.size w7 w9) (fun b _ _ => a - (intOf b).toNat)
          case atStart => exact ⟨0, by omega, rfl, hbp⟩
          case round =>
            obtain ⟨b, hba, rfl, hbb⟩ := hrel
            clear hbp hG8 hI8
            by_cases hltb : b < a
            · have hG9 := own_keep hG7 hbb
              have hI9 := (OwnAt.farInts hG9).ints
              have hC9 := hC7.below hbb
              have hP9 := hP7.below hbb
              obtain ⟨za, bz, oz, HZA, hez, hgz, cza⟩ := hI9.get hlt
              injection hez with hez; injection hez with e1 e2; subst e1; subst e2
              obtain ⟨zb, bz, oz, HZB, hez, -, czb⟩ := hI9.get (show b < q by omega)
              injection hez with hez; injection hez with e1 e2; subst e1; subst e2
              simp only [Nat.zero_add] at cza czb
              have hlb : b < q := by omega
              go_wp2_with (at_builtin; refine wpList_copyF rfl (.tmp 85) (.tmp 86) rfl hI9 rfl rfl (by omega) ?_; intro v5 w5 hO5 hb5; obtain ⟨A5, c5, rfl, hc51, hc52⟩ := (own_ints hO5).form; obtain ⟨g5, rfl⟩ := own_block hO5 (by omega); obtain ⟨⟨u5, hu5⟩, hz5, hg5, hg6⟩ := own_cell hO5 hlt; have dza := (hb5.cell (p := ⟨gX, a, none⟩) hgz).trans cza; have dzb := (hb5.cell (p := ⟨gX, b, none⟩) hgz).trans czb; have hO6 := own_set (i := a) hO5 zb; have hne : gX ≠ g5 := (by omega); obtain ⟨⟨u6, hu6⟩, hz6, -, -⟩ := own_cell hO6 hlb; have eza := (Whole.setOther hne dza : (w5.setCell ⟨g5, a, none⟩ (.int .i64 zb)).cell? ⟨gX, a, none⟩ = some (.int .i64 za)))
              have hO7 := own_set (i := b) hO6 za
              have hb7 := (hb5.setCell (p := ⟨g5, a, none⟩) hg5 (.int .i64 zb)).setCell (p := ⟨g5, b, none⟩) hg5 (.int .i64 za)
              unfold maxLen at hc52
              refine (giveValid_any _ q d cs _ m2 d2 ps _ q c5 ((B.set a zb).set b za) _ hmd (hC9.below hb7).slAt (by omega) (hP9.below hb7).slAt ⟨hc51, hc52⟩ (OwnAt.farInts hO7).ints).mono ?_; rintro e w6 ⟨rfl, hb6⟩
              have hbx := hb7.trans (hb6.mono (by have := hb7.size; omega))
              have hO8 := own_keep hO7 hb6
              have hB8 := hbb.trans (hbx.mono hbb.size)
              cases hgv : giveB cs ps ((B.set a zb).set b za)
              · clear hu5 hz5 hu6 hz6 dza dzb eza hO5 hO6 hO7 hO8 hb5 hb7 hb6 hI9 hC9 hP9 hgv cza czb
                go_wp2
                go_roundw
                case rel => exact ⟨b + 1, by omega, by go_num, hB8⟩
                case measure => simp [intOf]; omega
              · have hsw := HSWAP.out a b za zb HZA.out HZB.out hgv
                rw [HW.out] at hsw
                go_wp2_with fail
                refine (giveWaste_any _ q d cs _ m2 d2 ps _ q c5 ((B.set a zb).set b za) w6 hmd (hC9.below hbx).slAt (by omega) (hP9.below hbx).slAt ⟨hc51, hc52⟩ (OwnAt.farInts hO8).ints).mono ?_; rintro e w8 ⟨rfl, hb8⟩
                have hB9 := below_next hB8 hb8
                have hdw : decide (wasteL cs ps ((B.set a zb).set b za) < W) = false := by simpa using hsw
                clear hu5 hz5 hu6 hz6 dza dzb eza hO5 hO6 hO7 hO8 hb5 hb7 hb6 hI9 hC9 hP9 hgv cza czb hsw
                go_wp2
                go_roundw
                case rel => exact ⟨b + 1, by omega, by go_num, hB9⟩
                case measure => simp [intOf]; omega
            · go_wp2
              go_roundw
              case rel => exact ⟨a + 1, by omega, by go_num, hbb⟩
              case measure => simp [intOf]; omega
    · go_wp2_with fail
      refine (giveValid_any _ q d cs _ m2 d2 ps X q xc B wr hmd (hC7.below hbw).slAt (by omega) (hP7.below hbw).slAt hxc (OwnAt.farInts (own_keep hG7 hbw)).ints).mono ?_; rintro e w8 ⟨rfl, hb8⟩
      rw [HG.out]
      have hB8 := below_next (below_next hB7 hbw) hb8
      have hge : decide (0 ≤ W) = true := by simpa using hW0
      go_wp2
      go_ret
      exact ⟨rfl, hB8⟩
end Go.Proofs.YtmmaeninlhbaaaaDoor
