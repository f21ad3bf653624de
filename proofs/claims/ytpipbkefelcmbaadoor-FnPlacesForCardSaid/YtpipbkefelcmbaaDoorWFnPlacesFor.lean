/-
  The law FnPlacesFor: exactly into the places that are told the car fits; a smaller car has all of them.
-/
import Derived.Test.YtpipbkefelcmbaaDoorDrBest
import Derived.Test.YtpipbkefelcmbaaDoorAlive
import Derived.Test.YtpipbkefelcmbaaDoorPlFor
import Derived.Test.YtpipbkefelcmbaaDoorGiveV
import Derived.Test.YtpipbkefelcmbaaDoorOfX
import Derived.Deep.CutRange
namespace Go.Proofs.YtpipbkefelcmbaaDoor
open Go.ChangeShapes Go.WideShapes Go.ChangeAt Go.RowKit

def DrawCPs (w : World) (e : Ending) (w' : World) : Prop :=
  ∃ (f t r u : Int) (g2 m2 d2 : Nat) (ps : List P3), e = .returned (.tuple #[.agg #[.int .i64 f, .int .i64 t, .int .i64 r, .int .i64 u], .slice (some ⟨g2, 0, none⟩) m2 d2]) ∧ OwnAt w' w.heap.size 26 3 (.slice (some ⟨g2, 0, none⟩) m2 d2) m2 (pc ps) ∧ m2 ≤ 7 ∧ Below w.heap.size w w'
set_option maxHeartbeats 2000000 in
theorem drawPlacesFor_any (w : World) (A : Option Addr) (n c : Nat) (bs : List Int) (hn : n ≤ c ∧ c ≤ 9223372036854775807) (hb : BytesAt w A n bs) :
    Calls Tryd.prog 24 #[.slice A n c] w (DrawCPs w) := by
  have hQ1 : Whole (w.alloc (.cells #[.int .i64 0, .int .i64 0, .int .i64 0, .int .i64 0] 24)) w.heap.size 24 [.int .i64 0, .int .i64 0, .int .i64 0, .int .i64 0] := Whole.new w _ _
  have hB1 : Below w.heap.size w (w.alloc (.cells #[.int .i64 0, .int .i64 0, .int .i64 0, .int .i64 0] 24)) := (Below.refl _ _).alloc (Nat.le_refl _) _
  go_enter Tryd.func24, Tryd.ntmps24
  go_wp2_with fail
  generalize w.alloc (.cells #[.int .i64 0, .int .i64 0, .int .i64 0, .int .i64 0] 24) = w1 at hQ1 hB1 ⊢
  refine (open_any w1 A n c bs hn (hb.below hB1)).mono ?_; rintro e w2 ⟨R, A1, n1, c1, bs1, rfl, hR2⟩
  go_wp2_with fail
  refine (pick_any w1 w2 R A1 n1 c1 bs1 0 90 hR2 (by omega)).mono ?_; rintro e w4 ⟨i, rfl, hi0, hi1, -, hR4, hf4⟩
  replace hi1 := hi1 (by omega)
  have hxi : IntKind.i64.wrap (1 + i) = 1 + i := IntWalk.i64_in _ (by omega)
  go_wp2_with fail
  refine (l20CarOf_any w1 w4 R A1 n1 c1 bs1 (0 + 1) (1 + i) 9 hR4 (by omega) (by omega) (by omega) (by omega) (by omega)).mono ?_; rintro e w5 ⟨f, t, r, u, rfl, -, hR5, hf5⟩
  clear hxi
  go_wp2_with fail
  refine (l20Places_any w1 w5 R A1 n1 c1 bs1 (0 + 1 + 10) 9 hR5 (by omega) (by omega) (by omega)).mono ?_; rintro e w3 ⟨g2, m2, d2, ps, rfl, hP3, hm2, hR3, hf3⟩
  have hQl := hQ1.lt
  have hQ5 : w.heap.size < w5.heap.size := Nat.lt_of_lt_of_le hQl hR5.bw.size
  have hg2 := (ownV_far hP3.own).1
  have hQ3 := hQ1.below hR3.bw
  have hB3 := below_next hB1 hR3.bw
  have hw5 : w.heap.size ≤ w5.heap.size := by omega
  replace hP3 := hP3.base hw5
  obtain ⟨Q, HQ⟩ : ∃ Q, Hid (Q = w.heap.size) := ⟨_, rfl⟩
  have hgQ : g2 ≠ Q := by have := HQ.out; omega
  rw [← HQ.out] at hQ3 ⊢
  have hQw : w.heap.size ≤ Q := Nat.le_of_eq HQ.out.symm
  have hq0 := hQ3.cell 0
  have hq1 := hQ3.cell 1
  have hq2 := hQ3.cell 2
  have hq3 := hQ3.cell 3
  simp only [List.getElem?_cons_zero, List.getElem?_cons_succ] at hq0 hq1 hq2 hq3
  have hz0 := hQ3.free 0
  have hz1 := hQ3.free 1
  have hz2 := hQ3.free 2
  have hz3 := hQ3.free 3
  have HB3 := Lib.hid hB3
  have HP3 := Lib.hid hP3
  clear hQ1 hB1 hR2 hR3 hR4 hR5 hf4 hf5 hB3 hf3 hb hP3 hQl hQ5 hg2 hw5
  go_wp2
  have hW := (((hQ3.set_ 0 (.int .i64 f)).set_ 1 (.int .i64 t)).set_ 2 (.int .i64 r)).set_ 3 (.int .i64 u)
  have hG : Below w.heap.size w ((((w3.setCell ⟨Q, 0, none⟩ (.int .i64 f)).setCell ⟨Q, 1, none⟩ (.int .i64 t)).setCell ⟨Q, 2, none⟩ (.int .i64 r)).setCell ⟨Q, 3, none⟩ (.int .i64 u)) := (((HB3.out.setCell hQw _).setCell hQw _).setCell hQw _).setCell hQw _
  have hPz : OwnAt ((((w3.setCell ⟨Q, 0, none⟩ (.int .i64 f)).setCell ⟨Q, 1, none⟩ (.int .i64 t)).setCell ⟨Q, 2, none⟩ (.int .i64 r)).setCell ⟨Q, 3, none⟩ (.int .i64 u)) w.heap.size 26 3 (.slice (some ⟨g2, 0, none⟩) m2 d2) m2 (pc ps) :=
    ⟨ownV_other (ownV_other (ownV_other (ownV_other HP3.out.own (p := ⟨Q, 0, none⟩) hgQ _) (p := ⟨Q, 1, none⟩) hgQ _) (p := ⟨Q, 2, none⟩) hgQ _) (p := ⟨Q, 3, none⟩) hgQ _, HP3.out.len, HP3.out.one⟩
  generalize ((((w3.setCell ⟨Q, 0, none⟩ (.int .i64 f)).setCell ⟨Q, 1, none⟩ (.int .i64 t)).setCell ⟨Q, 2, none⟩ (.int .i64 r)).setCell ⟨Q, 3, none⟩ (.int .i64 u)) = wz at hW hG hPz ⊢
  have e0 : wz.cell? ⟨Q, 0, none⟩ = some (.int .i64 f) := hW.cell 0
  have e1 : wz.cell? ⟨Q, 1, none⟩ = some (.int .i64 t) := hW.cell 1
  have e2 : wz.cell? ⟨Q, 2, none⟩ = some (.int .i64 r) := hW.cell 2
  have e3 : wz.cell? ⟨Q, 3, none⟩ = some (.int .i64 u) := hW.cell 3
  exact bodyPost_ret (v := .tuple #[.agg #[.int .i64 f, .int .i64 t, .int .i64 r, .int .i64 u], .slice (some ⟨g2, 0, none⟩) m2 d2]) (by simp [results, Tryd.results24, go_sem, e0, e1, e2, e3]) rfl ⟨f, t, r, u, _, _, _, ps, rfl, hPz, hm2, hG⟩

theorem small_ok {x : C4} (h : x.ok = true) : (⟨x.f, x.t, 1, x.u⟩ : C4).ok = true := by
  have := car_range h
  unfold C4.ok carB; simp; omega
theorem small_fits {x : C4} {y : P3} (h : x.ok = true) (hf : fitP x y = true) : fitP ⟨x.f, x.t, 1, x.u⟩ y = true := by
  have := car_range h
  have := fitP_iff.1 hf
  exact fitP_iff.2 (by simp only; omega)
theorem hasB_forL {x : C4} {ps : List P3} (h : forB x ps = true) {k : Nat} {y : P3} (hy : Hid (ps[k]? = some y)) : hasB (forL x ps) (k : Int) = fitP x y := by
  rw [forL_yes h, hasB_selK (List.getElem?_eq_some_iff.1 hy.out).1, fitAt_get hy]

set_option maxRecDepth 100000 in
set_option maxHeartbeats 2000000 in
theorem lawPlacesFor (A : Option Addr) (n c : Nat) (bs : List Int) (w : World) (hn : n ≤ c ∧ c ≤ 9223372036854775807) (hb : BytesAt w A n bs) :
    Calls Tryd.prog 7 #[.slice A n c] w (RV w (.bool true)) := by
  obtain ⟨hn1, hn2⟩ := hn
  by_cases hbig : 1048576 < n
  · have hd : decide (1048576 < n) = true := by simpa using hbig
    go_enter Tryd.func7, Tryd.ntmps7
    go_wp2
    go_ret
    exact ⟨rfl, Below.refl _ _⟩
  have hd : decide (1048576 < n) = false := by simpa using hbig
  have HB := Lib.hid hb
  clear hb
  go_enter Tryd.func7, Tryd.ntmps7
  go_wp2_with fail
  refine (drawPlacesFor_any w A n c bs ⟨hn1, hn2⟩ HB.out).mono ?_; rintro e w0 ⟨f, t, r, u, g2, m2, d2, ps, rfl, hP0, hm2, hb0⟩
  clear HB hn1 hn2 hbig hd
  obtain ⟨x, hx⟩ : ∃ x : C4, x = ⟨f, t, r, u⟩ := ⟨_, rfl⟩
  obtain rfl : f = x.f := by rw [hx]
  obtain rfl : t = x.t := by rw [hx]
  obtain rfl : r = x.r := by rw [hx]
  obtain rfl : u = x.u := by rw [hx]
  clear hx
  have hC1 : Whole (w0.alloc (.cells #[.int .i64 x.f, .int .i64 x.t, .int .i64 x.r, .int .i64 x.u] 24)) w0.heap.size 24 [.int .i64 x.f, .int .i64 x.t, .int .i64 x.r, .int .i64 x.u] := Whole.new w0 _ _
  have hba : Below w0.heap.size w0 (w0.alloc (.cells #[.int .i64 x.f, .int .i64 x.t, .int .i64 x.r, .int .i64 x.u] 24)) := (Below.refl _ _).alloc (Nat.le_refl _) _
  have hP1 := hP0.below hba
  have hB1 := below_next hb0 hba
  clear hP0 hb0 hba
  go_wp2_with fail
  generalize w0.alloc (.cells #[.int .i64 x.f, .int .i64 x.t, .int .i64 x.r, .int .i64 x.u] 24) = w1 at hC1 hP1 hB1 ⊢
  obtain ⟨C, HC⟩ : ∃ C, Hid (C = w0.heap.size) := ⟨_, rfl⟩
  rw [← HC.out] at hC1 ⊢
  refine (placesFor_any x _ m2 d2 ps w1 (by omega) hP1.slAt).mono ?_; rintro e w2 ⟨X, q, xc, rfl, hq, hX2, hb2⟩
  have hq6 : q ≤ 6 := by rw [hq]; exact forL_short _ _
  have hXi : IntsAt w2 X q (forL x ps) := (OwnAt.farInts (base := w1.heap.size) (by rw [← ic_flat]; exact hX2.own)).ints
  have HQ := Lib.hid hq
  have hC2 := hC1.below hb2
  have hP2 := hP1.below hb2
  have hB2 := below_next hB1 hb2
  clear hC1 hP1 hB1 hb2 hX2 hq
  have hc0 := hC2.cell 0
  have hc1 := hC2.cell 1
  have hc2 := hC2.cell 2
  have hc3 := hC2.cell 3
  simp only [List.getElem?_cons_zero, List.getElem?_cons_succ] at hc0 hc1 hc2 hc3
  go_wp2_with fail
  refine (specPlacesFor_any x _ m2 d2 ps w2 (by omega) hP2.slAt).mono ?_; rintro e w3 ⟨Y, y, yc, rfl, hy, hY3, hb3⟩
  have hy6 : y ≤ 6 := by rw [hy]; exact forL_short _ _
  have hYi : IntsAt w3 Y y (forL x ps) := (OwnAt.farInts (base := w2.heap.size) (by rw [← ic_flat]; exact hY3.own)).ints
  have hX3 := hXi.below hb3
  have hC3 := hC2.below hb3
  have hP3 := hP2.below hb3
  have hB3 := below_next hB2 hb3
  clear hC2 hP2 hB2 hb3 hY3 hy hXi hc0 hc1 hc2 hc3
  go_wp2_with fail
  refine (sameInts_self X Y q xc y yc _ w3 (by omega) hX3 hYi).mono ?_; rintro e w4 ⟨rfl, hb4⟩
  have hX4 := hX3.below hb4
  have hC4 := hC3.below hb4
  have hP4 := hP3.below hb4
  have hB4 := below_next hB3 hb4
  clear hC3 hP3 hB3 hb4 hX3 hYi
  have hc0 := hC4.cell 0
  have hc1 := hC4.cell 1
  have hc2 := hC4.cell 2
  have hc3 := hC4.cell 3
  simp only [List.getElem?_cons_zero, List.getElem?_cons_succ] at hc0 hc1 hc2 hc3
  go_wp2_with fail
  refine (specCarValid_any _ _ _ _ w4).mono ?_; rintro e w5 ⟨rfl, hb5⟩
  have hX5 := hX4.below hb5
  have hC5 := hC4.below hb5
  have hP5 := hP4.below hb5
  have hB5 := below_next hB4 hb5
  clear hC4 hP4 hB4 hb5 hX4 hc0 hc1 hc2 hc3
  cases hok : carB x.f x.t x.r x.u
  · have hq0 : q = 0 := by rw [HQ.out, forL_no]; rfl; show (C4.ok x && _) = false; unfold C4.ok; rw [hok]; rfl
    subst hq0
    clear hok
    go_wp2_with fail
    refine (alive_any w5).mono ?_; rintro e w6 ⟨rfl, hb6⟩
    have hB6 := below_next hB5 hb6
    go_wp2
    go_ret
    exact ⟨rfl, hB6⟩
  have HOK := Lib.hid (show x.ok = true from hok)
  clear hok
  go_wp2_with fail
  refine (specPlacesValid_any _ m2 d2 ps w5 (by omega) hP5.slAt).mono ?_; rintro e w6 ⟨rfl, hb6⟩
  have hX6 := hX5.below hb6
  have hC6 := hC5.below hb6
  have hP6 := hP5.below hb6
  have hB6 := below_next hB5 hb6
  clear hC5 hP5 hB5 hb6 hX5
  cases hpl : placesB ps
  · have hq0 : q = 0 := by rw [HQ.out, forL_no]; rfl; unfold forB; rw [hpl, Bool.and_false]
    subst hq0
    clear hpl
    go_wp2_with fail
    refine (alive_any w6).mono ?_; rintro e w7 ⟨rfl, hb7⟩
    have hB7 := below_next hB6 hb7
    go_wp2
    go_ret
    exact ⟨rfl, hB7⟩
  have HF := Lib.hid (show forB x ps = true by unfold forB; rw [HOK.out, hpl]; rfl)
  have HF2 := Lib.hid (show forB ⟨x.f, x.t, 1, x.u⟩ ps = true by unfold forB; rw [small_ok HOK.out, hpl]; rfl)
  clear hpl
  have hc0 := hC6.cell 0
  have hc1 := hC6.cell 1
  have hc2 := hC6.cell 2
  have hc3 := hC6.cell 3
  simp only [List.getElem?_cons_zero, List.getElem?_cons_succ] at hc0 hc1 hc2 hc3
  go_wp2_with fail
  refine (placesFor_any ⟨x.f, x.t, 1, x.u⟩ _ m2 d2 ps w6 (by omega) hP6.slAt).mono ?_; rintro e w7 ⟨Z, z, zc, rfl, hz, hZ7, hb7⟩
  have hz6 : z ≤ 6 := by rw [hz]; exact forL_short _ _
  have hS7 : IntsAt w7 Z z (forL ⟨x.f, x.t, 1, x.u⟩ ps) := (OwnAt.farInts (base := w6.heap.size) (by rw [← ic_flat]; exact hZ7.own)).ints
  have hX7 := hX6.below hb7
  have hC7 := hC6.below hb7
  have hP7 := hP6.below hb7
  have hB7 := below_next hB6 hb7
  clear hC6 hP6 hB6 hb7 hX6 hZ7 hz hc0 hc1 hc2 hc3
  go_wp2
  go_loopw [7] (fun vk wr => ∃ k : Nat, k ≤ m2 ∧ vk = .int .i64 k ∧ Below w7.heap.size w7 wr) (fun k _ => m2 - (intOf k).toNat)
  case atStart => exact ⟨0, by omega, rfl, Below.refl _ _⟩
  case round =>
    obtain ⟨k, hkm, rfl, hbw⟩ := hrel
    have hXr := hX7.below hbw
    by_cases hlt : k < m2
    · have hCr := hC7.below hbw
      have hSr := hS7.below hbw
      have hc0 : wr.cell? ⟨C, 0, none⟩ = some (.int .i64 x.f) := hCr.cell 0
      have hc1 : wr.cell? ⟨C, 1, none⟩ = some (.int .i64 x.t) := hCr.cell 1
      have hc2 : wr.cell? ⟨C, 2, none⟩ = some (.int .i64 x.r) := hCr.cell 2
      have hc3 : wr.cell? ⟨C, 3, none⟩ = some (.int .i64 x.u) := hCr.cell 3
      have hCl := hCr.lt
      obtain ⟨y2, bp, op, HY, hep, hgl, p0, p1, p2⟩ := PlacesAt.get (hP7.below hbw).slAt hlt
      injection hep with hep; injection hep with e1 e2; subst e1; subst e2
      simp only [Nat.zero_add] at p0 p1 p2
      have hlt' : (k : Int) < (m2 : Int) := by omega
      have hk0 : (0 : Int) ≤ (k : Int) := by omega
      clear hCr
      cases hfit : fitP x y2
      · have h1 : hasB (forL x ps) (k : Int) = false := by rw [hasB_forL HF.out HY]; exact hfit
        have H1 := Lib.hid h1
        have HFIT := Lib.hid hfit
        clear h1 hfit
        go_upto_region 13 with fail
        refine wp_region_held_drew (S := (fun w' => w'.cell? ⟨C, 0, none⟩ = some (.int .i64 x.f) ∧ w'.cell? ⟨C, 1, none⟩ = some (.int .i64 x.t) ∧ w'.cell? ⟨C, 2, none⟩ = some (.int .i64 x.r) ∧ w'.cell? ⟨C, 3, none⟩ = some (.int .i64 x.u) ∧ w'.cell? ⟨g2, k * 3, none⟩ = some (.int .i64 y2.f) ∧ w'.cell? ⟨g2, k * 3 + 1, none⟩ = some (.int .i64 y2.t) ∧ w'.cell? ⟨g2, k * 3 + 2, none⟩ = some (.int .i64 y2.r))) (by kernel_rfl) ?_ (fun hHeld => ?_)
        · (try dsimp only); first | exact ⟨hc0, hc1, hc2, hc3, p0, p1, p2⟩ | exact k8
        refine wpAnyH_take (i := 0) (v := ?vq1_0) (by simp only [List.getElem?_toArray, List.getElem?_cons_zero]; rfl) (by kernel_rfl) (by kernel_rfl) (by kernel_rfl) (by exact fun _ _ _ h => h) (Or.inl ⟨by rfl, ?hq1_0⟩) hHeld ?rq1_0
        case hq1_0 => (intro w hSw; (try dsimp only at hSw); go_simp; (try with_reducible rfl))
        try simp only [put_laws]
        refine wpAnyH_take (i := 1) (v := ?vq1_1) (by simp only [List.getElem?_toArray, List.getElem?_cons_succ, List.getElem?_cons_zero]; rfl) (by kernel_rfl) (by kernel_rfl) (by kernel_rfl) (by exact fun _ _ _ h => h) (Or.inl ⟨by rfl, ?hq1_1⟩) hHeld ?rq1_1
        case hq1_1 => (intro w hSw; (try dsimp only at hSw); go_simp; (try with_reducible rfl))
        try simp only [put_laws]
        refine wpAnyH_take (i := 3) (v := ?vq1_3) (by simp only [List.getElem?_toArray, List.getElem?_cons_succ, List.getElem?_cons_zero]; rfl) (by kernel_rfl) (by kernel_rfl) (by kernel_rfl) (by exact fun _ _ _ h => h) (Or.inl ⟨by rfl, ?hq1_3⟩) hHeld ?rq1_3
        case hq1_3 => (intro w hSw; (try dsimp only at hSw); go_simp; (try with_reducible rfl))
        try simp only [put_laws]
        refine wpAnyH_take (i := 4) (v := ?vq1_4) (by simp only [List.getElem?_toArray, List.getElem?_cons_succ, List.getElem?_cons_zero]; rfl) (by kernel_rfl) (by kernel_rfl) (by kernel_rfl) (by exact fun _ _ _ h => h) (Or.inl ⟨by rfl, ?hq1_4⟩) hHeld ?rq1_4
        case hq1_4 => (intro w hSw; (try dsimp only at hSw); go_simp; (try with_reducible rfl))
        try simp only [put_laws]
        refine wpAnyH_take (i := 5) (v := ?vq1_5) (by simp only [List.getElem?_toArray, List.getElem?_cons_succ, List.getElem?_cons_zero]; rfl) (by kernel_rfl) (by kernel_rfl) (by kernel_rfl) (by exact fun _ _ _ h => h) (Or.inl ⟨by rfl, ?hq1_5⟩) hHeld ?rq1_5
        case hq1_5 => (intro w hSw; (try dsimp only at hSw); go_simp; (try with_reducible rfl))
        try simp only [put_laws]
        refine wpAnyH_take (i := 6) (v := ?vq1_6) (by simp only [List.getElem?_toArray, List.getElem?_cons_succ, List.getElem?_cons_zero]; rfl) (by kernel_rfl) (by kernel_rfl) (by kernel_rfl) (by exact fun _ _ _ h => h) (Or.inl ⟨by rfl, ?hq1_6⟩) hHeld ?rq1_6
        case hq1_6 => (intro w hSw; (try dsimp only at hSw); go_simp; (try with_reducible rfl))
        try simp only [put_laws]
        refine wpAnyH_take (i := 7) (v := ?vq1_7) (by simp only [List.getElem?_toArray, List.getElem?_cons_succ, List.getElem?_cons_zero]; rfl) (by kernel_rfl) (by kernel_rfl) (by kernel_rfl) (by exact fun _ _ _ h => h) (Or.inl ⟨by rfl, ?hq1_7⟩) hHeld ?rq1_7
        case hq1_7 => (intro w hSw; (try dsimp only at hSw); go_simp; (try with_reducible rfl))
        try simp only [put_laws]
        refine wpAnyH_ready (rs := [2]) (by kernel_rfl) (by simp) ?_
        refine AllReadyH.cons (by simp only [List.getElem?_toArray, List.getElem?_cons_succ, List.getElem?_cons_zero]; rfl) (fun K hK => ?_) AllReadyH.nil
        go_simp
        refine (hasInt_no X q xc _ (k : Int) _ (by omega) (hXr.below (Below.refl _ _).drew) H1.out).mono ?_; rintro e w8 ⟨rfl, rfl⟩
        refine hK.out _ _ ?_ (fun hHeld => ?_)
        · (try dsimp only); first | exact ⟨hc0, hc1, hc2, hc3, p0, p1, p2⟩ | exact k8
        clear hK K
        try simp only [put_laws]
        refine wpAnyH_ready (rs := [8]) (by kernel_rfl) (by simp) ?_
        refine AllReadyH.cons (by simp only [List.getElem?_toArray, List.getElem?_cons_succ, List.getElem?_cons_zero]; rfl) (fun K hK => ?_) AllReadyH.nil
        go_simp
        refine (fits_no x y2 _ HFIT.out).mono ?_; rintro e w8 ⟨rfl, hb8⟩; have k8 := (And.intro ((hb8.cell (p := ⟨C, 0, none⟩) hCl).trans hc0) (And.intro ((hb8.cell (p := ⟨C, 1, none⟩) hCl).trans hc1) (And.intro ((hb8.cell (p := ⟨C, 2, none⟩) hCl).trans hc2) (And.intro ((hb8.cell (p := ⟨C, 3, none⟩) hCl).trans hc3) (And.intro ((hb8.cell (p := ⟨g2, k * 3, none⟩) hgl).trans p0) (And.intro ((hb8.cell (p := ⟨g2, k * 3 + 1, none⟩) hgl).trans p1) ((hb8.cell (p := ⟨g2, k * 3 + 2, none⟩) hgl).trans p2)))))))
        refine hK.out _ _ ?_ (fun hHeld => ?_)
        · (try dsimp only); first | exact ⟨hc0, hc1, hc2, hc3, p0, p1, p2⟩ | exact k8
        clear hK K
        try simp only [put_laws]
        refine wpAnyH_take (i := 9) (v := ?vq1_9) (by simp only [List.getElem?_toArray, List.getElem?_cons_succ, List.getElem?_cons_zero]; rfl) (by kernel_rfl) (by kernel_rfl) (by kernel_rfl) (by exact fun _ _ _ h => h) (Or.inl ⟨by rfl, ?hq1_9⟩) hHeld ?rq1_9
        case hq1_9 => (intro w hSw; (try dsimp only at hSw); go_simp; (try with_reducible rfl))
        try simp only [put_laws]
        refine wpAnyH_take (i := 10) (v := ?vq1_10) (by simp only [List.getElem?_toArray, List.getElem?_cons_succ, List.getElem?_cons_zero]; rfl) (by kernel_rfl) (by kernel_rfl) (by kernel_rfl) (by exact fun _ _ _ h => h) (Or.inl ⟨by rfl, ?hq1_10⟩) hHeld ?rq1_10
        case hq1_10 => (intro w hSw; (try dsimp only at hSw); go_simp; (try with_reducible rfl))
        try simp only [put_laws]
        refine wpAnyH_take (i := 11) (v := ?vq1_11) (by simp only [List.getElem?_toArray, List.getElem?_cons_succ, List.getElem?_cons_zero]; rfl) (by kernel_rfl) (by kernel_rfl) (by kernel_rfl) (by exact fun _ _ _ h => h) (Or.inl ⟨by rfl, ?hq1_11⟩) hHeld ?rq1_11
        case hq1_11 => (intro w hSw; (try dsimp only at hSw); go_simp; (try with_reducible rfl))
        try simp only [put_laws]
        refine wpAnyH_take (i := 12) (v := ?vq1_12) (by simp only [List.getElem?_toArray, List.getElem?_cons_succ, List.getElem?_cons_zero]; rfl) (by kernel_rfl) (by kernel_rfl) (by kernel_rfl) (by exact fun _ _ _ h => h) (Or.inl ⟨by rfl, ?hq1_12⟩) hHeld ?rq1_12
        case hq1_12 => (intro w hSw; (try dsimp only at hSw); go_simp; (try with_reducible rfl))
        try simp only [put_laws]
        refine wpAnyH_ready (rs := [13]) (by kernel_rfl) (by simp) ?_
        refine AllReadyH.cons (by simp only [List.getElem?_toArray, List.getElem?_cons_succ, List.getElem?_cons_zero]; rfl) (fun K hK => ?_) AllReadyH.nil
        go_simp
        refine (hasInt_no X q xc _ (k : Int) _ (by omega) ((hXr.below (Below.refl _ _).drew).below hb8) H1.out).mono ?_; rintro e w9 ⟨rfl, rfl⟩
        refine hK.out _ _ ?_ (fun hHeld => ?_)
        · (try dsimp only); first | exact ⟨hc0, hc1, hc2, hc3, p0, p1, p2⟩ | exact k8
        clear hK K
        try simp only [put_laws]
        refine wpAnyH_take (i := 14) (v := ?vq1_14) (by simp only [List.getElem?_toArray, List.getElem?_cons_succ, List.getElem?_cons_zero]; rfl) (by kernel_rfl) (by kernel_rfl) (by kernel_rfl) (by exact fun _ _ _ h => h) (Or.inl ⟨by rfl, ?hq1_14⟩) hHeld ?rq1_14
        case hq1_14 => (intro w hSw; (try dsimp only at hSw); go_simp; (try with_reducible rfl))
        try simp only [put_laws]
        refine wpAnyH_take (i := 15) (v := undef) (by simp only [List.getElem?_toArray, List.getElem?_cons_succ, List.getElem?_cons_zero]; rfl) (by kernel_rfl) (by kernel_rfl) (by kernel_rfl) (by exact fun _ _ _ h => h) (Or.inr ⟨by rfl, rfl⟩) hHeld ?_
        try simp only [put_laws]
        refine wpAnyH_take (i := 16) (v := undef) (by simp only [List.getElem?_toArray, List.getElem?_cons_succ, List.getElem?_cons_zero]; rfl) (by kernel_rfl) (by kernel_rfl) (by kernel_rfl) (by exact fun _ _ _ h => h) (Or.inr ⟨by rfl, rfl⟩) hHeld ?_
        try simp only [put_laws]
        refine wpAnyH_take (i := 17) (v := undef) (by simp only [List.getElem?_toArray, List.getElem?_cons_succ, List.getElem?_cons_zero]; rfl) (by kernel_rfl) (by kernel_rfl) (by kernel_rfl) (by exact fun _ _ _ h => h) (Or.inr ⟨by rfl, rfl⟩) hHeld ?_
        try simp only [put_laws]
        refine wpAnyH_take (i := 18) (v := undef) (by simp only [List.getElem?_toArray, List.getElem?_cons_succ, List.getElem?_cons_zero]; rfl) (by kernel_rfl) (by kernel_rfl) (by kernel_rfl) (by exact fun _ _ _ h => h) (Or.inr ⟨by rfl, rfl⟩) hHeld ?_
        try simp only [put_laws]
        refine wpAnyH_take (i := 19) (v := ?vq1_19) (by simp only [List.getElem?_toArray, List.getElem?_cons_succ, List.getElem?_cons_zero]; rfl) (by kernel_rfl) (by kernel_rfl) (by kernel_rfl) (by exact fun _ _ _ h => h) (Or.inl ⟨by rfl, ?hq1_19⟩) hHeld ?rq1_19
        case hq1_19 => (intro w hSw; (try dsimp only at hSw); go_simp; (try with_reducible rfl))
        try simp only [put_laws]
        refine wpAnyH_take (i := 20) (v := ?vq1_20) (by simp only [List.getElem?_toArray, List.getElem?_cons_succ, List.getElem?_cons_zero]; rfl) (by kernel_rfl) (by kernel_rfl) (by kernel_rfl) (by exact fun _ _ _ h => h) (Or.inl ⟨by rfl, ?hq1_20⟩) hHeld ?rq1_20
        case hq1_20 => (intro w hSw; (try dsimp only at hSw); go_simp; (try with_reducible rfl))
        try simp only [put_laws]
        refine wpAnyH_done (by kernel_rfl) ?_ _
        have hbn : Below w7.heap.size w7 w8 := hbw.trans ((((Below.refl wr.heap.size wr).drew).trans (hb8.mono (Nat.le_refl _))).mono hbw.size)
        clear hHeld k8 hc0 hc1 hc2 hc3 p0 p1 p2 hb8 hXr hSr
        go_wp2
        go_roundw
        case rel => exact ⟨k + 1, by omega, by go_num, hbn⟩
        case measure => simp [intOf]; omega
      · have h1 : hasB (forL x ps) (k : Int) = true := by rw [hasB_forL HF.out HY]; exact hfit
        have h2 : hasB (forL ⟨x.f, x.t, 1, x.u⟩ ps) (k : Int) = true := by rw [hasB_forL HF2.out HY]; exact small_fits HOK.out hfit
        have H2 := Lib.hid h2
        clear h2
        have H1 := Lib.hid h1
        have HFIT := Lib.hid hfit
        clear h1 hfit
        go_upto_region 13 with fail
        refine wp_region_held_drew (S := (fun w' => w'.cell? ⟨C, 0, none⟩ = some (.int .i64 x.f) ∧ w'.cell? ⟨C, 1, none⟩ = some (.int .i64 x.t) ∧ w'.cell? ⟨C, 2, none⟩ = some (.int .i64 x.r) ∧ w'.cell? ⟨C, 3, none⟩ = some (.int .i64 x.u) ∧ w'.cell? ⟨g2, k * 3, none⟩ = some (.int .i64 y2.f) ∧ w'.cell? ⟨g2, k * 3 + 1, none⟩ = some (.int .i64 y2.t) ∧ w'.cell? ⟨g2, k * 3 + 2, none⟩ = some (.int .i64 y2.r))) (by kernel_rfl) ?_ (fun hHeld => ?_)
        · (try dsimp only); first | exact ⟨hc0, hc1, hc2, hc3, p0, p1, p2⟩ | exact k8
        refine wpAnyH_take (i := 0) (v := ?vq2_0) (by simp only [List.getElem?_toArray, List.getElem?_cons_zero]; rfl) (by kernel_rfl) (by kernel_rfl) (by kernel_rfl) (by exact fun _ _ _ h => h) (Or.inl ⟨by rfl, ?hq2_0⟩) hHeld ?rq2_0
        case hq2_0 => (intro w hSw; (try dsimp only at hSw); go_simp; (try with_reducible rfl))
        try simp only [put_laws]
        refine wpAnyH_take (i := 1) (v := ?vq2_1) (by simp only [List.getElem?_toArray, List.getElem?_cons_succ, List.getElem?_cons_zero]; rfl) (by kernel_rfl) (by kernel_rfl) (by kernel_rfl) (by exact fun _ _ _ h => h) (Or.inl ⟨by rfl, ?hq2_1⟩) hHeld ?rq2_1
        case hq2_1 => (intro w hSw; (try dsimp only at hSw); go_simp; (try with_reducible rfl))
        try simp only [put_laws]
        refine wpAnyH_take (i := 3) (v := ?vq2_3) (by simp only [List.getElem?_toArray, List.getElem?_cons_succ, List.getElem?_cons_zero]; rfl) (by kernel_rfl) (by kernel_rfl) (by kernel_rfl) (by exact fun _ _ _ h => h) (Or.inl ⟨by rfl, ?hq2_3⟩) hHeld ?rq2_3
        case hq2_3 => (intro w hSw; (try dsimp only at hSw); go_simp; (try with_reducible rfl))
        try simp only [put_laws]
        refine wpAnyH_take (i := 4) (v := ?vq2_4) (by simp only [List.getElem?_toArray, List.getElem?_cons_succ, List.getElem?_cons_zero]; rfl) (by kernel_rfl) (by kernel_rfl) (by kernel_rfl) (by exact fun _ _ _ h => h) (Or.inl ⟨by rfl, ?hq2_4⟩) hHeld ?rq2_4
        case hq2_4 => (intro w hSw; (try dsimp only at hSw); go_simp; (try with_reducible rfl))
        try simp only [put_laws]
        refine wpAnyH_take (i := 5) (v := ?vq2_5) (by simp only [List.getElem?_toArray, List.getElem?_cons_succ, List.getElem?_cons_zero]; rfl) (by kernel_rfl) (by kernel_rfl) (by kernel_rfl) (by exact fun _ _ _ h => h) (Or.inl ⟨by rfl, ?hq2_5⟩) hHeld ?rq2_5
        case hq2_5 => (intro w hSw; (try dsimp only at hSw); go_simp; (try with_reducible rfl))
        try simp only [put_laws]
        refine wpAnyH_take (i := 6) (v := ?vq2_6) (by simp only [List.getElem?_toArray, List.getElem?_cons_succ, List.getElem?_cons_zero]; rfl) (by kernel_rfl) (by kernel_rfl) (by kernel_rfl) (by exact fun _ _ _ h => h) (Or.inl ⟨by rfl, ?hq2_6⟩) hHeld ?rq2_6
        case hq2_6 => (intro w hSw; (try dsimp only at hSw); go_simp; (try with_reducible rfl))
        try simp only [put_laws]
        refine wpAnyH_take (i := 7) (v := ?vq2_7) (by simp only [List.getElem?_toArray, List.getElem?_cons_succ, List.getElem?_cons_zero]; rfl) (by kernel_rfl) (by kernel_rfl) (by kernel_rfl) (by exact fun _ _ _ h => h) (Or.inl ⟨by rfl, ?hq2_7⟩) hHeld ?rq2_7
        case hq2_7 => (intro w hSw; (try dsimp only at hSw); go_simp; (try with_reducible rfl))
        try simp only [put_laws]
        refine wpAnyH_ready (rs := [2]) (by kernel_rfl) (by simp) ?_
        refine AllReadyH.cons (by simp only [List.getElem?_toArray, List.getElem?_cons_succ, List.getElem?_cons_zero]; rfl) (fun K hK => ?_) AllReadyH.nil
        go_simp
        refine (hasInt_yes X q xc _ (k : Int) _ (by omega) (hXr.below (Below.refl _ _).drew) H1.out).mono ?_; rintro e w8 ⟨rfl, rfl⟩
        refine hK.out _ _ ?_ (fun hHeld => ?_)
        · (try dsimp only); first | exact ⟨hc0, hc1, hc2, hc3, p0, p1, p2⟩ | exact k8
        clear hK K
        try simp only [put_laws]
        refine wpAnyH_ready (rs := [8]) (by kernel_rfl) (by simp) ?_
        refine AllReadyH.cons (by simp only [List.getElem?_toArray, List.getElem?_cons_succ, List.getElem?_cons_zero]; rfl) (fun K hK => ?_) AllReadyH.nil
        go_simp
        refine (fits_yes x y2 _ HFIT.out).mono ?_; rintro e w8 ⟨rfl, hb8⟩; have k8 := (And.intro ((hb8.cell (p := ⟨C, 0, none⟩) hCl).trans hc0) (And.intro ((hb8.cell (p := ⟨C, 1, none⟩) hCl).trans hc1) (And.intro ((hb8.cell (p := ⟨C, 2, none⟩) hCl).trans hc2) (And.intro ((hb8.cell (p := ⟨C, 3, none⟩) hCl).trans hc3) (And.intro ((hb8.cell (p := ⟨g2, k * 3, none⟩) hgl).trans p0) (And.intro ((hb8.cell (p := ⟨g2, k * 3 + 1, none⟩) hgl).trans p1) ((hb8.cell (p := ⟨g2, k * 3 + 2, none⟩) hgl).trans p2)))))))
        refine hK.out _ _ ?_ (fun hHeld => ?_)
        · (try dsimp only); first | exact ⟨hc0, hc1, hc2, hc3, p0, p1, p2⟩ | exact k8
        clear hK K
        try simp only [put_laws]
        refine wpAnyH_take (i := 9) (v := ?vq2_9) (by simp only [List.getElem?_toArray, List.getElem?_cons_succ, List.getElem?_cons_zero]; rfl) (by kernel_rfl) (by kernel_rfl) (by kernel_rfl) (by exact fun _ _ _ h => h) (Or.inl ⟨by rfl, ?hq2_9⟩) hHeld ?rq2_9
        case hq2_9 => (intro w hSw; (try dsimp only at hSw); go_simp; (try with_reducible rfl))
        try simp only [put_laws]
        refine wpAnyH_take (i := 10) (v := ?vq2_10) (by simp only [List.getElem?_toArray, List.getElem?_cons_succ, List.getElem?_cons_zero]; rfl) (by kernel_rfl) (by kernel_rfl) (by kernel_rfl) (by exact fun _ _ _ h => h) (Or.inl ⟨by rfl, ?hq2_10⟩) hHeld ?rq2_10
        case hq2_10 => (intro w hSw; (try dsimp only at hSw); go_simp; (try with_reducible rfl))
        try simp only [put_laws]
        refine wpAnyH_take (i := 11) (v := ?vq2_11) (by simp only [List.getElem?_toArray, List.getElem?_cons_succ, List.getElem?_cons_zero]; rfl) (by kernel_rfl) (by kernel_rfl) (by kernel_rfl) (by exact fun _ _ _ h => h) (Or.inl ⟨by rfl, ?hq2_11⟩) hHeld ?rq2_11
        case hq2_11 => (intro w hSw; (try dsimp only at hSw); go_simp; (try with_reducible rfl))
        try simp only [put_laws]
        refine wpAnyH_take (i := 12) (v := ?vq2_12) (by simp only [List.getElem?_toArray, List.getElem?_cons_succ, List.getElem?_cons_zero]; rfl) (by kernel_rfl) (by kernel_rfl) (by kernel_rfl) (by exact fun _ _ _ h => h) (Or.inl ⟨by rfl, ?hq2_12⟩) hHeld ?rq2_12
        case hq2_12 => (intro w hSw; (try dsimp only at hSw); go_simp; (try with_reducible rfl))
        try simp only [put_laws]
        refine wpAnyH_ready (rs := [13]) (by kernel_rfl) (by simp) ?_
        refine AllReadyH.cons (by simp only [List.getElem?_toArray, List.getElem?_cons_succ, List.getElem?_cons_zero]; rfl) (fun K hK => ?_) AllReadyH.nil
        go_simp
        refine (hasInt_yes X q xc _ (k : Int) _ (by omega) ((hXr.below (Below.refl _ _).drew).below hb8) H1.out).mono ?_; rintro e w9 ⟨rfl, rfl⟩
        refine hK.out _ _ ?_ (fun hHeld => ?_)
        · (try dsimp only); first | exact ⟨hc0, hc1, hc2, hc3, p0, p1, p2⟩ | exact k8
        clear hK K
        try simp only [put_laws]
        refine wpAnyH_take (i := 14) (v := ?vq2_14) (by simp only [List.getElem?_toArray, List.getElem?_cons_succ, List.getElem?_cons_zero]; rfl) (by kernel_rfl) (by kernel_rfl) (by kernel_rfl) (by exact fun _ _ _ h => h) (Or.inl ⟨by rfl, ?hq2_14⟩) hHeld ?rq2_14
        case hq2_14 => (intro w hSw; (try dsimp only at hSw); go_simp; (try with_reducible rfl))
        try simp only [put_laws]
        refine wpAnyH_take (i := 15) (v := ?vq2_15) (by simp only [List.getElem?_toArray, List.getElem?_cons_succ, List.getElem?_cons_zero]; rfl) (by kernel_rfl) (by kernel_rfl) (by kernel_rfl) (by exact fun _ _ _ h => h) (Or.inl ⟨by rfl, ?hq2_15⟩) hHeld ?rq2_15
        case hq2_15 => (intro w hSw; (try dsimp only at hSw); go_simp; (try with_reducible rfl))
        try simp only [put_laws]
        refine wpAnyH_take (i := 16) (v := ?vq2_16) (by simp only [List.getElem?_toArray, List.getElem?_cons_succ, List.getElem?_cons_zero]; rfl) (by kernel_rfl) (by kernel_rfl) (by kernel_rfl) (by exact fun _ _ _ h => h) (Or.inl ⟨by rfl, ?hq2_16⟩) hHeld ?rq2_16
        case hq2_16 => (intro w hSw; (try dsimp only at hSw); go_simp; (try with_reducible rfl))
        try simp only [put_laws]
        refine wpAnyH_ready (rs := [17]) (by kernel_rfl) (by simp) ?_
        refine AllReadyH.cons (by simp only [List.getElem?_toArray, List.getElem?_cons_succ, List.getElem?_cons_zero]; rfl) (fun K hK => ?_) AllReadyH.nil
        go_simp
        refine (hasInt_yes Z z zc _ (k : Int) _ (by omega) ((hSr.below (Below.refl _ _).drew).below hb8) H2.out).mono ?_; rintro e w9 ⟨rfl, rfl⟩
        refine hK.out _ _ ?_ (fun hHeld => ?_)
        · (try dsimp only); first | exact ⟨hc0, hc1, hc2, hc3, p0, p1, p2⟩ | exact k8
        clear hK K
        try simp only [put_laws]
        refine wpAnyH_take (i := 18) (v := ?vq2_18) (by simp only [List.getElem?_toArray, List.getElem?_cons_succ, List.getElem?_cons_zero]; rfl) (by kernel_rfl) (by kernel_rfl) (by kernel_rfl) (by exact fun _ _ _ h => h) (Or.inl ⟨by rfl, ?hq2_18⟩) hHeld ?rq2_18
        case hq2_18 => (intro w hSw; (try dsimp only at hSw); go_simp; (try with_reducible rfl))
        try simp only [put_laws]
        refine wpAnyH_take (i := 19) (v := ?vq2_19) (by simp only [List.getElem?_toArray, List.getElem?_cons_succ, List.getElem?_cons_zero]; rfl) (by kernel_rfl) (by kernel_rfl) (by kernel_rfl) (by exact fun _ _ _ h => h) (Or.inl ⟨by rfl, ?hq2_19⟩) hHeld ?rq2_19
        case hq2_19 => (intro w hSw; (try dsimp only at hSw); go_simp; (try with_reducible rfl))
        try simp only [put_laws]
        refine wpAnyH_take (i := 20) (v := ?vq2_20) (by simp only [List.getElem?_toArray, List.getElem?_cons_succ, List.getElem?_cons_zero]; rfl) (by kernel_rfl) (by kernel_rfl) (by kernel_rfl) (by exact fun _ _ _ h => h) (Or.inl ⟨by rfl, ?hq2_20⟩) hHeld ?rq2_20
        case hq2_20 => (intro w hSw; (try dsimp only at hSw); go_simp; (try with_reducible rfl))
        try simp only [put_laws]
        refine wpAnyH_done (by kernel_rfl) ?_ _
        have hbn : Below w7.heap.size w7 w8 := hbw.trans ((((Below.refl wr.heap.size wr).drew).trans (hb8.mono (Nat.le_refl _))).mono hbw.size)
        clear hHeld k8 hc0 hc1 hc2 hc3 p0 p1 p2 hb8 hXr hSr
        go_wp2
        go_roundw
        case rel => exact ⟨k + 1, by omega, by go_num, hbn⟩
        case measure => simp [intOf]; omega
    · go_wp2_with fail
      refine (ascend_any X q xc _ _ (by omega) hXr (asc_forL _ _)).mono ?_; rintro e w8 ⟨rfl, hb8⟩
      have hB8 := below_next (below_next hB7 hbw) hb8
      go_wp2
      go_ret
      exact ⟨rfl, hB8⟩
end Go.Proofs.YtpipbkefelcmbaaDoor
