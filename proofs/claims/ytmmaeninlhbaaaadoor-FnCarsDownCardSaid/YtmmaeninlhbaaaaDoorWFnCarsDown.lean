/-
  The law FnCarsDown: every car comes once, and none comes before one with a greater sum.
-/
import Derived.Test.YtmmaeninlhbaaaaDoorDrCars
import Derived.Test.YtmmaeninlhbaaaaDoorAlive
import Derived.Test.YtmmaeninlhbaaaaDoorSortS
import Derived.Test.YtmmaeninlhbaaaaDoorSameI
namespace Go.Proofs.YtmmaeninlhbaaaaDoor
open Go.ChangeShapes Go.WideShapes Go.ChangeAt Go.RowKit

def DrawCs2 (w : World) (e : Ending) (w' : World) : Prop :=
  ∃ (g m d : Nat) (ns : List C4), e = .returned (.slice (some ⟨g, 0, none⟩) m d) ∧ OwnAt w' w.heap.size 40 4 (.slice (some ⟨g, 0, none⟩) m d) m (cc ns) ∧ m ≤ 7 ∧ Below w.heap.size w w'
set_option maxHeartbeats 1000000 in
theorem drawCarsDown_any (w : World) (A : Option Addr) (n c : Nat) (bs : List Int) (hn : n ≤ c ∧ c ≤ 9223372036854775807) (hb : BytesAt w A n bs) :
    Calls Tryd.prog 20 #[.slice A n c] w (DrawCs2 w) := by
  go_enter Tryd.func20, Tryd.ntmps20
  go_wp2_with fail
  refine (open_any w A n c bs hn hb).mono ?_; rintro e w2 ⟨R, A1, n1, c1, bs1, rfl, hR2⟩
  go_wp2_with fail
  refine (l20Cars_any w w2 R A1 n1 c1 bs1 0 9 hR2 (by omega) (by omega) (by omega)).mono ?_; rintro e w3 ⟨g, m, d, ns, rfl, hO, hm, hR3, hf3⟩
  go_wp2
  go_ret
  exact ⟨g, m, d, ns, rfl, hO.base hR2.bw.size, hm, hR3.bw⟩

/-- Two cars next to one another in the order. -/
theorem down_pair {cs : List C4} {n k : Nat} (h : k + 1 < n) : ∃ a b : Nat, (toI (downK cs n))[k]? = some (a : Int) ∧ (toI (downK cs n))[k + 1]? = some (b : Int) ∧ a < n ∧ b < n ∧ szAt cs b ≤ szAt cs a ∧ hasB ((toI (downK cs n)).take (k + 1)) (b : Int) = false := by
  have hD := downK_is cs n
  have hl := downK_len hD
  have ha : (downK cs n)[k]? = some (downK cs n)[k] := List.getElem?_eq_getElem (by omega)
  have hb : (downK cs n)[k + 1]? = some (downK cs n)[k + 1] := List.getElem?_eq_getElem (by omega)
  refine ⟨_, _, toI_get ha, toI_get hb, (hD.all _).1 (List.mem_of_getElem? ha), (hD.all _).1 (List.mem_of_getElem? hb), ?_, ?_⟩
  · have hp := List.pairwise_iff_getElem.1 hD.down k (k + 1) (by omega) (by omega) (by omega)
    unfold ahead at hp
    omega
  · have e : (toI (downK cs n)).take (k + 1) = toI ((downK cs n).take (k + 1)) := by unfold toI; rw [List.map_take]
    rw [e, hasB_toI, decide_eq_false_iff_not]
    intro hm
    obtain ⟨i, hi⟩ := List.getElem?_of_mem hm
    rw [List.getElem?_take] at hi
    split at hi
    · rename_i hik
      obtain ⟨h1, h2⟩ := List.getElem?_eq_some_iff.1 hi
      have hp := List.pairwise_iff_getElem.1 hD.down i (k + 1) h1 (by omega) hik
      rw [h2] at hp
      exact ahead_not hp hp
    · cases hi

set_option maxRecDepth 100000 in
set_option maxHeartbeats 2000000 in
theorem lawCarsDown (A : Option Addr) (n c : Nat) (bs : List Int) (w : World) (hn : n ≤ c ∧ c ≤ 9223372036854775807) (hb : BytesAt w A n bs) :
    Calls Tryd.prog 4 #[.slice A n c] w (RV w (.bool true)) := by
  obtain ⟨hn1, hn2⟩ := hn
  by_cases hbig : 1048576 < n
  · have hd : decide (1048576 < n) = true := by simpa using hbig
    go_enter Tryd.func4, Tryd.ntmps4
    go_wp2
    go_ret
    exact ⟨rfl, Below.refl _ _⟩
  have hd : decide (1048576 < n) = false := by simpa using hbig
  have HB := Lib.hid hb
  clear hb
  go_enter Tryd.func4, Tryd.ntmps4
  go_wp2_with fail
  refine (drawCarsDown_any w A n c bs ⟨hn1, hn2⟩ HB.out).mono ?_; rintro e w1 ⟨g, m, d, cs, rfl, hC1, hm, hb1⟩
  clear HB hn1 hn2 hbig hd
  have hmd : m ≤ d ∧ d ≤ 9223372036854775807 := hC1.cap
  go_wp2_with fail
  refine (carsDown_any _ m d cs w1 hmd hC1.slAt).mono ?_; rintro e w2 ⟨X, q, xc, rfl, hq, hX2, hb2⟩
  have hq6 : q ≤ 6 := by rw [hq]; exact downL_short _
  have hxc := hX2.cap
  have HQ := Lib.hid hq
  have hG2 : w2.ownsRow w1.heap.size 3 1 (.slice X q xc) q ((downL cs).map (Value.int .i64)) := by rw [← ic_flat]; exact hX2.own
  have hC2 := hC1.below hb2
  have hB2 := below_next hb1 hb2
  clear hC1 hb1 hb2 hq hX2
  go_wp2_with fail
  refine (specCarsDown_any _ m d cs w2 hmd hC2.slAt).mono ?_; rintro e w3 ⟨Y, y, yc, rfl, hy, hY3, hb3⟩
  have hy6 : y ≤ 6 := by rw [hy]; exact downL_short _
  have hYi : IntsAt w3 Y y (downL cs) := (OwnAt.farInts (base := w2.heap.size) (by rw [← ic_flat]; exact hY3.own)).ints
  have hG3 := own_keep hG2 hb3
  have hC3 := hC2.below hb3
  have hB3 := below_next hB2 hb3
  clear hC2 hB2 hb3 hY3 hy hG2
  go_wp2_with fail
  refine (sameInts_self X Y q xc y yc _ w3 (by omega) (OwnAt.farInts hG3).ints hYi).mono ?_; rintro e w4 ⟨rfl, hb4⟩
  have hG4 := own_keep hG3 hb4
  have hC4 := hC3.below hb4
  have hB4 := below_next hB3 hb4
  clear hC3 hB3 hb4 hG3 hYi
  go_wp2_with fail
  refine (specCarsValid_any _ m d cs w4 hmd hC4.slAt).mono ?_; rintro e w5 ⟨rfl, hb5⟩
  have hG5 := own_keep hG4 hb5
  have hC5 := hC4.below hb5
  have hB5 := below_next hB4 hb5
  clear hC4 hB4 hb5 hG4
  cases hv1 : carsB cs
  · have hq0 : q = 0 := by rw [HQ.out, downL_no hv1]; rfl
    subst hq0
    clear hv1
    go_wp2_with fail
    refine (alive_any w5).mono ?_; rintro e w6 ⟨rfl, hb6⟩
    have hB6 := below_next hB5 hb6
    go_wp2
    go_ret
    exact ⟨rfl, hB6⟩
  have HV1 := Lib.hid hv1
  have hlen : cs.length = m := CarsAt.len hC5.slAt
  have hdl : downL cs = toI (downK cs m) := downL_yes hv1 (by rw [hlen]; exact downK_is cs m)
  have hqm : q = m := by rw [HQ.out, hdl, toI_len, downK_len (downK_is cs m)]
  subst hqm
  rw [hdl] at hG5
  clear hv1 hdl hlen
  go_wp2
  go_loopw [5, 6, 7] (fun vk _ _ wr => ∃ k : Nat, vk = .int .i64 ((k : Int) + 1) ∧ Below w5.heap.size w5 wr) (fun k _ _ _ => q - (intOf k).toNat)
  case atStart => exact ⟨0, rfl, Below.refl _ _⟩
  case round =>
    obtain ⟨k, rfl, hbr⟩ := hrel
    by_cases hlt : k + 1 < q
    · obtain ⟨gX, rfl⟩ := own_block hG5 (by omega)
      obtain ⟨w8, rfl⟩ : ∃ w8, w8 = wr := ⟨_, rfl⟩
      obtain ⟨a, b, ha, hb, han, hbn, hsz, hno⟩ := down_pair (cs := cs) (n := q) hlt
      have hI8 := (OwnAt.farInts (own_keep hG5 hbr)).ints
      have hC8 := hC5.below hbr
      obtain ⟨z1, b1, o1, HZ1, he1, hgo, q1⟩ := hI8.get hlt
      injection he1 with he1; injection he1 with e1 e2; subst e1; subst e2
      obtain ⟨z0, b0, o0, HZ0, he0, -, q0⟩ := hI8.get (show k < q by omega)
      injection he0 with he0; injection he0 with e1 e2; subst e1; subst e2
      obtain rfl : z1 = (b : Int) := by have := HZ1.out; rw [hb] at this; injection this with this; exact this.symm
      obtain rfl : z0 = (a : Int) := by have := HZ0.out; rw [ha] at this; injection this with this; exact this.symm
      obtain ⟨x, bx, ox, HX, hex, hgc, c0, c1, c2, c3⟩ := CarsAt.get hC8.slAt han
      injection hex with hex; injection hex with e1 e2; subst e1; subst e2
      obtain ⟨y, by_, oy, HY, hey, -, d0, d1, d2, d3⟩ := CarsAt.get hC8.slAt hbn
      injection hey with hey; injection hey with e1 e2; subst e1; subst e2
      simp only [Nat.zero_add] at q1 q0 c0 c1 c2 c3 d0 d1 d2 d3
      obtain ⟨-, ⟨x1, x2⟩, ⟨x3, x4⟩, x5, x6⟩ := car_range (carsB_get HV1.out HX)
      obtain ⟨-, ⟨y1, y2⟩, ⟨y3, y4⟩, y5, y6⟩ := car_range (carsB_get HV1.out HY)
      rw [szAt_get HX, szAt_get HY] at hsz
      unfold szC at hsz
      have HSZ := Lib.hid hsz
      have HNO := Lib.hid hno
      clear HX HY HZ1 HZ0 ha hb hsz hno
      have hk1 : (k : Int) + 1 < (q : Int) := by omega
      have hk2 : (k : Int) < (q : Int) := by omega
      have hk3 : (0 : Int) ≤ (k : Int) := by omega
      have hk4 : (0 : Int) ≤ (k : Int) + 1 := by omega
      have hwx1 : IntKind.i64.wrap (x.t + x.r) = x.t + x.r := IntWalk.i64_in _ (by omega)
      have hwx2 : IntKind.i64.wrap (x.t + x.r + x.u) = x.t + x.r + x.u := IntWalk.i64_in _ (by omega)
      have hwy1 : IntKind.i64.wrap (y.t + y.r) = y.t + y.r := IntWalk.i64_in _ (by omega)
      have hwy2 : IntKind.i64.wrap (y.t + y.r + y.u) = y.t + y.r + y.u := IntWalk.i64_in _ (by omega)
      have hkc : (k : Int) + 1 ≤ (xc : Int) := by omega
      have hkc2 : k + 1 ≤ xc := by omega
      have hkw : IntKind.i64.wrap ((k : Int) + 1 - 1) = (k : Int) := by rw [IntWalk.i64_in _ (by omega)]; omega
      have hkw2 : IntKind.i64.wrap (k : Int) = (k : Int) := IntWalk.i64_in _ (by omega)
      have hkn : ((k : Int) + 1).toNat = k + 1 := by omega
      have hal : (a : Int) < (q : Int) := by omega
      have hbl : (b : Int) < (q : Int) := by omega
      have ha0 : (0 : Int) ≤ (a : Int) := by omega
      have hb0 : (0 : Int) ≤ (b : Int) := by omega
      have hq1' : (w8.alloc (.cells #[.int .i64 x.f, .int .i64 x.t, .int .i64 x.r, .int .i64 x.u] 40)).cell? ⟨gX, k + 1, none⟩ = some (.int .i64 (b : Int)) := (World.cell?_alloc_lt _ _ _ hgo).trans q1
      have e0 := (World.cell?_alloc_lt w8 (.cells #[.int .i64 x.f, .int .i64 x.t, .int .i64 x.r, .int .i64 x.u] 40) ⟨g, b * 4, none⟩ hgc).trans d0
      have e1 := (World.cell?_alloc_lt w8 (.cells #[.int .i64 x.f, .int .i64 x.t, .int .i64 x.r, .int .i64 x.u] 40) ⟨g, b * 4 + 1, none⟩ hgc).trans d1
      have e2 := (World.cell?_alloc_lt w8 (.cells #[.int .i64 x.f, .int .i64 x.t, .int .i64 x.r, .int .i64 x.u] 40) ⟨g, b * 4 + 2, none⟩ hgc).trans d2
      have e3 := (World.cell?_alloc_lt w8 (.cells #[.int .i64 x.f, .int .i64 x.t, .int .i64 x.r, .int .i64 x.u] 40) ⟨g, b * 4 + 3, none⟩ hgc).trans d3
      go_upto_region 14 with fail
      have hN1 := (Whole.new w8 40 [.int .i64 x.f, .int .i64 x.t, .int .i64 x.r, .int .i64 x.u]).alloc (.cells #[.int .i64 y.f, .int .i64 y.t, .int .i64 y.r, .int .i64 y.u] 40)
      have hN2 := Whole.new (w8.alloc (.cells #[.int .i64 x.f, .int .i64 x.t, .int .i64 x.r, .int .i64 x.u] 40)) 40 [.int .i64 y.f, .int .i64 y.t, .int .i64 y.r, .int .i64 y.u]
      rw [show (w8.alloc (.cells #[.int .i64 x.f, .int .i64 x.t, .int .i64 x.r, .int .i64 x.u] 40)).heap.size = w8.heap.size + 1 by simp] at hN2
      change Whole ((w8.alloc (.cells #[.int .i64 x.f, .int .i64 x.t, .int .i64 x.r, .int .i64 x.u] 40)).alloc (.cells #[.int .i64 y.f, .int .i64 y.t, .int .i64 y.r, .int .i64 y.u] 40)) w8.heap.size _ _ at hN1
      change Whole ((w8.alloc (.cells #[.int .i64 x.f, .int .i64 x.t, .int .i64 x.r, .int .i64 x.u] 40)).alloc (.cells #[.int .i64 y.f, .int .i64 y.t, .int .i64 y.r, .int .i64 y.u] 40)) (w8.heap.size + 1) _ _ at hN2
      have hb9 : Below w8.heap.size w8 ((w8.alloc (.cells #[.int .i64 x.f, .int .i64 x.t, .int .i64 x.r, .int .i64 x.u] 40)).alloc (.cells #[.int .i64 y.f, .int .i64 y.t, .int .i64 y.r, .int .i64 y.u] 40)) := ((Below.refl _ _).alloc (Nat.le_refl _) _).alloc (by simp) _
      clear hq1' e0 e1 e2 e3
      generalize (w8.alloc (.cells #[.int .i64 x.f, .int .i64 x.t, .int .i64 x.r, .int .i64 x.u] 40)).alloc (.cells #[.int .i64 y.f, .int .i64 y.t, .int .i64 y.r, .int .i64 y.u] 40) = w9 at hN1 hN2 hb9 ⊢
      obtain ⟨M, HM⟩ : ∃ M, Hid (M = w8.heap.size + 1) := ⟨_, rfl⟩
      rw [← HM.out] at hN2 ⊢
      obtain ⟨N, HN⟩ : ∃ N, Hid (N = w8.heap.size) := ⟨_, rfl⟩
      rw [← HN.out] at hN1 ⊢
      have n1 : w9.cell? ⟨N, 1, none⟩ = some (.int .i64 x.t) := hN1.cell 1
      have n2 : w9.cell? ⟨N, 2, none⟩ = some (.int .i64 x.r) := hN1.cell 2
      have n3 : w9.cell? ⟨N, 3, none⟩ = some (.int .i64 x.u) := hN1.cell 3
      have m1 : w9.cell? ⟨M, 1, none⟩ = some (.int .i64 y.t) := hN2.cell 1
      have m2 : w9.cell? ⟨M, 2, none⟩ = some (.int .i64 y.r) := hN2.cell 2
      have m3 : w9.cell? ⟨M, 3, none⟩ = some (.int .i64 y.u) := hN2.cell 3
      have hq1 : w9.cell? ⟨gX, k + 1, none⟩ = some (.int .i64 (b : Int)) := (hb9.cell (p := ⟨gX, k + 1, none⟩) hgo).trans q1
      have hI9 := (hI8.below hb9).take (show k + 1 ≤ q by omega)
      have hB9 := hbr.trans (hb9.mono hbr.size)
      have hcmp : decide (x.t + x.r + x.u < y.t + y.r + y.u) = false := by have := HSZ.out; simp; omega
      clear q1 q0 c0 c1 c2 c3 d0 d1 d2 d3 hN1 hN2 hI8 hC8 hgc hgo hbr hb9
      refine wp_region_held_drew (S := (fun w' => w'.cell? ⟨N, 1, none⟩ = some (.int .i64 x.t) ∧ w'.cell? ⟨N, 2, none⟩ = some (.int .i64 x.r) ∧ w'.cell? ⟨N, 3, none⟩ = some (.int .i64 x.u) ∧ w'.cell? ⟨M, 1, none⟩ = some (.int .i64 y.t) ∧ w'.cell? ⟨M, 2, none⟩ = some (.int .i64 y.r) ∧ w'.cell? ⟨M, 3, none⟩ = some (.int .i64 y.u) ∧ w'.cell? ⟨gX, k + 1, none⟩ = some (.int .i64 (b : Int)))) (by kernel_rfl) ?_ (fun hHeld => ?_)
      · (try dsimp only); exact ⟨n1, n2, n3, m1, m2, m3, hq1⟩
      refine wpAnyH_take (i := 0) (v := ?vq1_0) (by simp only [List.getElem?_toArray, List.getElem?_cons_zero]; rfl) (by kernel_rfl) (by kernel_rfl) (by kernel_rfl) (by exact fun _ _ _ h => h) (Or.inl ⟨by rfl, ?hq1_0⟩) hHeld ?rq1_0
      case hq1_0 => (intro w hSw; (try dsimp only at hSw); go_simp; (try with_reducible rfl))
      try simp only [put_laws]
      refine wpAnyH_take (i := 1) (v := ?vq1_1) (by simp only [List.getElem?_toArray, List.getElem?_cons_succ, List.getElem?_cons_zero]; rfl) (by kernel_rfl) (by kernel_rfl) (by kernel_rfl) (by exact fun _ _ _ h => h) (Or.inl ⟨by rfl, ?hq1_1⟩) hHeld ?rq1_1
      case hq1_1 => (intro w hSw; (try dsimp only at hSw); go_simp; (try with_reducible rfl))
      try simp only [put_laws]
      refine wpAnyH_take (i := 2) (v := ?vq1_2) (by simp only [List.getElem?_toArray, List.getElem?_cons_succ, List.getElem?_cons_zero]; rfl) (by kernel_rfl) (by kernel_rfl) (by kernel_rfl) (by exact fun _ _ _ h => h) (Or.inl ⟨by rfl, ?hq1_2⟩) hHeld ?rq1_2
      case hq1_2 => (intro w hSw; (try dsimp only at hSw); go_simp; (try with_reducible rfl))
      try simp only [put_laws]
      refine wpAnyH_take (i := 3) (v := ?vq1_3) (by simp only [List.getElem?_toArray, List.getElem?_cons_succ, List.getElem?_cons_zero]; rfl) (by kernel_rfl) (by kernel_rfl) (by kernel_rfl) (by exact fun _ _ _ h => h) (Or.inl ⟨by rfl, ?hq1_3⟩) hHeld ?rq1_3
      case hq1_3 => (intro w hSw; (try dsimp only at hSw); go_simp; (try with_reducible rfl))
      try simp only [put_laws]
      refine wpAnyH_take (i := 4) (v := ?vq1_4) (by simp only [List.getElem?_toArray, List.getElem?_cons_succ, List.getElem?_cons_zero]; rfl) (by kernel_rfl) (by kernel_rfl) (by kernel_rfl) (by exact fun _ _ _ h => h) (Or.inl ⟨by rfl, ?hq1_4⟩) hHeld ?rq1_4
      case hq1_4 => (intro w hSw; (try dsimp only at hSw); go_simp; (try with_reducible rfl))
      try simp only [put_laws]
      refine wpAnyH_take (i := 5) (v := ?vq1_5) (by simp only [List.getElem?_toArray, List.getElem?_cons_succ, List.getElem?_cons_zero]; rfl) (by kernel_rfl) (by kernel_rfl) (by kernel_rfl) (by exact fun _ _ _ h => h) (Or.inl ⟨by rfl, ?hq1_5⟩) hHeld ?rq1_5
      case hq1_5 => (intro w hSw; (try dsimp only at hSw); go_simp; (try with_reducible rfl))
      try simp only [put_laws]
      refine wpAnyH_take (i := 6) (v := ?vq1_6) (by simp only [List.getElem?_toArray, List.getElem?_cons_succ, List.getElem?_cons_zero]; rfl) (by kernel_rfl) (by kernel_rfl) (by kernel_rfl) (by exact fun _ _ _ h => h) (Or.inl ⟨by rfl, ?hq1_6⟩) hHeld ?rq1_6
      case hq1_6 => (intro w hSw; (try dsimp only at hSw); go_simp; (try with_reducible rfl))
      try simp only [put_laws]
      refine wpAnyH_take (i := 7) (v := ?vq1_7) (by simp only [List.getElem?_toArray, List.getElem?_cons_succ, List.getElem?_cons_zero]; rfl) (by kernel_rfl) (by kernel_rfl) (by kernel_rfl) (by exact fun _ _ _ h => h) (Or.inl ⟨by rfl, ?hq1_7⟩) hHeld ?rq1_7
      case hq1_7 => (intro w hSw; (try dsimp only at hSw); go_simp; (try with_reducible rfl))
      try simp only [put_laws]
      refine wpAnyH_take (i := 8) (v := ?vq1_8) (by simp only [List.getElem?_toArray, List.getElem?_cons_succ, List.getElem?_cons_zero]; rfl) (by kernel_rfl) (by kernel_rfl) (by kernel_rfl) (by exact fun _ _ _ h => h) (Or.inl ⟨by rfl, ?hq1_8⟩) hHeld ?rq1_8
      case hq1_8 => (intro w hSw; (try dsimp only at hSw); go_simp; (try with_reducible rfl))
      try simp only [put_laws]
      refine wpAnyH_take (i := 9) (v := ?vq1_9) (by simp only [List.getElem?_toArray, List.getElem?_cons_succ, List.getElem?_cons_zero]; rfl) (by kernel_rfl) (by kernel_rfl) (by kernel_rfl) (by exact fun _ _ _ h => h) (Or.inl ⟨by rfl, ?hq1_9⟩) hHeld ?rq1_9
      case hq1_9 => (intro w hSw; (try dsimp only at hSw); go_simp; (try with_reducible rfl))
      try simp only [put_laws]
      refine wpAnyH_take (i := 10) (v := ?vq1_10) (by simp only [List.getElem?_toArray, List.getElem?_cons_succ, List.getElem?_cons_zero]; rfl) (by kernel_rfl) (by kernel_rfl) (by kernel_rfl) (by exact fun _ _ _ h => h) (Or.inl ⟨by rfl, ?hq1_10⟩) hHeld ?rq1_10
      case hq1_10 => (intro w hSw; (try dsimp only at hSw); go_simp; (try with_reducible rfl))
      try simp only [put_laws]
      refine wpAnyH_take (i := 11) (v := ?vq1_11) (by simp only [List.getElem?_toArray, List.getElem?_cons_succ, List.getElem?_cons_zero]; rfl) (by kernel_rfl) (by kernel_rfl) (by kernel_rfl) (by exact fun _ _ _ h => h) (Or.inl ⟨by rfl, ?hq1_11⟩) hHeld ?rq1_11
      case hq1_11 => (intro w hSw; (try dsimp only at hSw); go_simp; (try with_reducible rfl))
      try simp only [put_laws]
      refine wpAnyH_take (i := 12) (v := ?vq1_12) (by simp only [List.getElem?_toArray, List.getElem?_cons_succ, List.getElem?_cons_zero]; rfl) (by kernel_rfl) (by kernel_rfl) (by kernel_rfl) (by exact fun _ _ _ h => h) (Or.inl ⟨by rfl, ?hq1_12⟩) hHeld ?rq1_12
      case hq1_12 => (intro w hSw; (try dsimp only at hSw); go_simp; (try with_reducible rfl))
      try simp only [put_laws]
      refine wpAnyH_take (i := 13) (v := ?vq1_13) (by simp only [List.getElem?_toArray, List.getElem?_cons_succ, List.getElem?_cons_zero]; rfl) (by kernel_rfl) (by kernel_rfl) (by kernel_rfl) (by exact fun _ _ _ h => h) (Or.inl ⟨by rfl, ?hq1_13⟩) hHeld ?rq1_13
      case hq1_13 => (intro w hSw; (try dsimp only at hSw); go_simp; (try with_reducible rfl))
      try simp only [put_laws]
      refine wpAnyH_take (i := 14) (v := ?vq1_14) (by simp only [List.getElem?_toArray, List.getElem?_cons_succ, List.getElem?_cons_zero]; rfl) (by kernel_rfl) (by kernel_rfl) (by kernel_rfl) (by exact fun _ _ _ h => h) (Or.inl ⟨by rfl, ?hq1_14⟩) hHeld ?rq1_14
      case hq1_14 => (intro w hSw; (try dsimp only at hSw); go_simp; (try with_reducible rfl))
      try simp only [put_laws]
      refine wpAnyH_take (i := 15) (v := ?vq1_15) (by simp only [List.getElem?_toArray, List.getElem?_cons_succ, List.getElem?_cons_zero]; rfl) (by kernel_rfl) (by kernel_rfl) (by kernel_rfl) (by exact fun _ _ _ h => h) (Or.inl ⟨by rfl, ?hq1_15⟩) hHeld ?rq1_15
      case hq1_15 => (intro w hSw; (try dsimp only at hSw); go_simp; (try with_reducible rfl))
      try simp only [put_laws]
      refine wpAnyH_take (i := 16) (v := ?vq1_16) (by simp only [List.getElem?_toArray, List.getElem?_cons_succ, List.getElem?_cons_zero]; rfl) (by kernel_rfl) (by kernel_rfl) (by kernel_rfl) (by exact fun _ _ _ h => h) (Or.inl ⟨by rfl, ?hq1_16⟩) hHeld ?rq1_16
      case hq1_16 => (intro w hSw; (try dsimp only at hSw); go_simp; (try with_reducible rfl))
      try simp only [put_laws]
      try rw [hcmp]
      refine wpAnyH_take (i := 17) (v := ?vq1_17) (by simp only [List.getElem?_toArray, List.getElem?_cons_succ, List.getElem?_cons_zero]; rfl) (by kernel_rfl) (by kernel_rfl) (by kernel_rfl) (by exact fun _ _ _ h => h) (Or.inl ⟨by rfl, ?hq1_17⟩) hHeld ?rq1_17
      case hq1_17 => (intro w hSw; (try dsimp only at hSw); go_simp; (try with_reducible rfl))
      try simp only [put_laws]
      refine wpAnyH_take (i := 18) (v := ?vq1_18) (by simp only [List.getElem?_toArray, List.getElem?_cons_succ, List.getElem?_cons_zero]; rfl) (by kernel_rfl) (by kernel_rfl) (by kernel_rfl) (by exact fun _ _ _ h => h) (Or.inl ⟨by rfl, ?hq1_18⟩) hHeld ?rq1_18
      case hq1_18 => (intro w hSw; (try dsimp only at hSw); go_simp; (try with_reducible rfl))
      try simp only [put_laws]
      refine wpAnyH_take (i := 19) (v := ?vq1_19) (by simp only [List.getElem?_toArray, List.getElem?_cons_succ, List.getElem?_cons_zero]; rfl) (by kernel_rfl) (by kernel_rfl) (by kernel_rfl) (by exact fun _ _ _ h => h) (Or.inl ⟨by rfl, ?hq1_19⟩) hHeld ?rq1_19
      case hq1_19 => (intro w hSw; (try dsimp only at hSw); go_simp; (try with_reducible rfl))
      try simp only [put_laws]
      refine wpAnyH_take (i := 20) (v := ?vq1_20) (by simp only [List.getElem?_toArray, List.getElem?_cons_succ, List.getElem?_cons_zero]; rfl) (by kernel_rfl) (by kernel_rfl) (by kernel_rfl) (by exact fun _ _ _ h => h) (Or.inl ⟨by rfl, ?hq1_20⟩) hHeld ?rq1_20
      case hq1_20 => (intro w hSw; (try dsimp only at hSw); go_simp; (try with_reducible rfl))
      try simp only [put_laws]
      refine wpAnyH_take (i := 21) (v := ?vq1_21) (by simp only [List.getElem?_toArray, List.getElem?_cons_succ, List.getElem?_cons_zero]; rfl) (by kernel_rfl) (by kernel_rfl) (by kernel_rfl) (by exact fun _ _ _ h => h) (Or.inl ⟨by rfl, ?hq1_21⟩) hHeld ?rq1_21
      case hq1_21 => (intro w hSw; (try dsimp only at hSw); go_simp; (try with_reducible rfl))
      try simp only [put_laws]
      refine wpAnyH_take (i := 22) (v := ?vq1_22) (by simp only [List.getElem?_toArray, List.getElem?_cons_succ, List.getElem?_cons_zero]; rfl) (by kernel_rfl) (by kernel_rfl) (by kernel_rfl) (by exact fun _ _ _ h => h) (Or.inl ⟨by rfl, ?hq1_22⟩) hHeld ?rq1_22
      case hq1_22 => (intro w hSw; (try dsimp only at hSw); go_simp; (try with_reducible rfl))
      try simp only [put_laws]
      refine wpAnyH_take (i := 23) (v := ?vq1_23) (by simp only [List.getElem?_toArray, List.getElem?_cons_succ, List.getElem?_cons_zero]; rfl) (by kernel_rfl) (by kernel_rfl) (by kernel_rfl) (by exact fun _ _ _ h => h) (Or.inl ⟨by rfl, ?hq1_23⟩) hHeld ?rq1_23
      case hq1_23 => (intro w hSw; (try dsimp only at hSw); go_simp; (try with_reducible rfl))
      try simp only [put_laws]
      refine wpAnyH_take (i := 24) (v := ?vq1_24) (by simp only [List.getElem?_toArray, List.getElem?_cons_succ, List.getElem?_cons_zero]; rfl) (by kernel_rfl) (by kernel_rfl) (by kernel_rfl) (by exact fun _ _ _ h => h) (Or.inl ⟨by rfl, ?hq1_24⟩) hHeld ?rq1_24
      case hq1_24 => (intro w hSw; (try dsimp only at hSw); go_simp; (try with_reducible rfl))
      try simp only [put_laws]
      refine wpAnyH_ready (rs := [25]) (by kernel_rfl) (by simp) ?_
      refine AllReadyH.cons (by simp only [List.getElem?_toArray, List.getElem?_cons_succ, List.getElem?_cons_zero]; rfl) (fun K hK => ?_) AllReadyH.nil
      go_simp
      refine (hasInt_no _ (k + 1) xc _ (b : Int) _ (by omega) (hI9.below (Below.refl _ _).drew) HNO.out).mono ?_; rintro e wz ⟨rfl, rfl⟩
      refine hK.out _ _ ?_ (fun hHeld => ?_)
      · (try dsimp only); exact ⟨n1, n2, n3, m1, m2, m3, hq1⟩
      clear hK K
      try simp only [put_laws]
      refine wpAnyH_take (i := 26) (v := ?vq1_26) (by simp only [List.getElem?_toArray, List.getElem?_cons_succ, List.getElem?_cons_zero]; rfl) (by kernel_rfl) (by kernel_rfl) (by kernel_rfl) (by exact fun _ _ _ h => h) (Or.inl ⟨by rfl, ?hq1_26⟩) hHeld ?rq1_26
      case hq1_26 => (intro w hSw; (try dsimp only at hSw); go_simp; (try with_reducible rfl))
      try simp only [put_laws]
      refine wpAnyH_done (by kernel_rfl) ?_ _
      clear hHeld n1 n2 n3 m1 m2 m3 hq1 hI9
      go_wp2
      go_roundw
      case rel => exact ⟨k + 1, by go_num, hB9.drew⟩
      case measure => simp [intOf]; omega
    · go_wp2
      go_ret
      exact ⟨rfl, below_next hB5 hbr⟩
end Go.Proofs.YtmmaeninlhbaaaaDoor
