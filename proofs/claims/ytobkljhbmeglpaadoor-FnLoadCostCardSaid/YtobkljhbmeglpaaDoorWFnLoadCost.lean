/-
  The law FnLoadCost: with a price that is greater by 1 in any hour it costs more by the load of the hour.
-/
import Derived.Test.YtobkljhbmeglpaaDoorDrFeed
import Derived.Test.YtobkljhbmeglpaaDoorAlive
import Derived.Test.YtobkljhbmeglpaaDoorChargeP
import Derived.Deep.RegionHeld
namespace Go.Proofs.YtobkljhbmeglpaaDoor
open Go.ChangeShapes Go.WideShapes Go.ChangeAt Go.RowKit

def DrawLcR (w : World) (e : Ending) (w' : World) : Prop :=
  ∃ (g off m d : Nat) (xs : List Int) (g2 off2 m2 d2 : Nat) (ys : List Int), e = .returned (.tuple #[.slice (some ⟨g, off, none⟩) m d, .slice (some ⟨g2, off2, none⟩) m2 d2]) ∧
    IntsAt w' (some ⟨g, off, none⟩) m xs ∧ m ≤ 7 ∧ IntsAt w' (some ⟨g2, off2, none⟩) m2 ys ∧ m2 ≤ 7 ∧ Below w.heap.size w w'
set_option maxHeartbeats 1000000 in
theorem drawLoadCost_any (w : World) (A : Option Addr) (n c : Nat) (bs : List Int) (hn : n ≤ c ∧ c ≤ 9223372036854775807) (hb : BytesAt w A n bs) :
    Calls Tryd.prog 30 #[.slice A n c] w (DrawLcR w) := by
  go_enter Tryd.func30, Tryd.ntmps30
  go_wp2_with fail
  refine (open_any w A n c bs hn hb).mono ?_; rintro e w2 ⟨R, A1, n1, c1, bs1, rfl, hR2⟩
  have hRl := hR2.lt
  go_wp2_with fail
  refine (l20Feed_any w w2 R A1 n1 c1 bs1 0 9 hR2 (by omega) (by omega) (by omega)).mono ?_; rintro e w3 ⟨g, off, m, d, xs, rfl, hI, hm, hX, hR3, hf3⟩
  go_wp2_with fail
  refine (l20Feed_any w w3 R A1 n1 c1 bs1 10 9 hR3 (by omega) (by omega) (by omega)).mono ?_; rintro e w4 ⟨g2, off2, m2, d2, ys, rfl, hI2, hm2, hX2, hR4, hf4⟩
  go_wp2
  exact bodyPost_ret (v := .tuple #[.slice (some ⟨g, off, none⟩) m d, .slice (some ⟨g2, off2, none⟩) m2 d2]) (by simp [results, Tryd.results30, go_sem]) rfl ⟨g, off, m, d, xs, g2, off2, m2, d2, ys, rfl, (hI.fr1 hf4 hRl).ints, hm, hI2.ints, hm2, hR4.bw⟩

theorem cell_other {w : World} {g h i j : Nat} {v u : Value} (hne : g ≠ h) (hc : w.cell? ⟨g, i, none⟩ = some u) : (w.setCell ⟨h, j, none⟩ v).cell? ⟨g, i, none⟩ = some u := by
  simp only [World.cell?] at hc ⊢
  rw [Below.heap_setCell w ⟨h, j, none⟩ v g hne]; exact hc

set_option maxRecDepth 100000 in
set_option maxHeartbeats 2000000 in
theorem lawLoadCost (A : Option Addr) (n c : Nat) (bs : List Int) (w : World) (hn : n ≤ c ∧ c ≤ 9223372036854775807) (hb : BytesAt w A n bs) :
    Calls Tryd.prog 8 #[.slice A n c] w (RV w (.bool true)) := by
  obtain ⟨hn1, hn2⟩ := hn
  by_cases hbig : 1048576 < n
  · have hd : decide (1048576 < n) = true := by simpa using hbig
    go_enter Tryd.func8, Tryd.ntmps8
    go_wp2
    go_ret
    exact ⟨rfl, Below.refl _ _⟩
  have hd : decide (1048576 < n) = false := by simpa using hbig
  have HB := Lib.hid hb
  clear hb
  have hbs : ∀ w : World, (Instr.buildSlice 29 0 #[]).run Tryd.prog w = .ok (.slice (some ⟨w.heap.size, 0, none⟩) 0 0) (w.alloc (.cells #[] 3)) := fun _ => by kernel_rfl
  go_enter Tryd.func8, Tryd.ntmps8
  go_wp2_with fail
  refine (drawLoadCost_any w A n c bs ⟨hn1, hn2⟩ HB.out).mono ?_; rintro e w1 ⟨g, off, m, d, xs, g2, off2, m2, d2, ys, rfl, hI, hm, hJ, hm2, hb1⟩
  clear HB hn1 hn2 hbig hd
  obtain ⟨q, HQ⟩ : ∃ x, Hid (costR xs ys = x) := ⟨_, rfl⟩
  go_wp2_with fail
  refine (loadCost_any _ m d xs _ m2 d2 ys w1 (by omega) hI (by omega) hJ).mono ?_; rintro e w2 ⟨rfl, rfl⟩
  rw [HQ.out]
  go_wp2_with fail
  refine (specLoadCost_any _ m d xs _ m2 d2 ys w1 (by omega) hI (by omega) hJ).mono ?_; rintro e w2 ⟨rfl, hb2⟩
  rw [HQ.out]
  have hB2 := below_next hb1 hb2
  have hI2 := hI.below hb2
  have hJ2 := hJ.below hb2
  clear hI hJ hb1 hb2
  have hxx : (q != q) = false := by simp
  by_cases hx0 : q < 0
  · obtain rfl : q = -1 := by have h := costR_neg (xs := xs) (ys := ys) (by rw [HQ.out]; exact hx0); rw [HQ.out] at h; exact h
    go_wp2_with fail
    refine (alive_any _).mono ?_; rintro e w4 ⟨rfl, hb4⟩
    go_wp2
    go_ret
    exact ⟨rfl, below_next hB2 hb4⟩
  · obtain ⟨hF, hG⟩ := costR_pos (xs := xs) (ys := ys) (by rw [HQ.out]; exact hx0)
    have HF := Lib.hid hF
    have HG := Lib.hid hG
    have hm6 : m = 6 := by have := (feedB_small hF).1; have := hI2.len; omega
    have hm26 : m2 = 6 := by have := (feedB_small hG).1; have := hJ2.len; omega
    subst hm6
    subst hm26
    have hqb : q ≤ 5400 := by
      have h := HQ.out
      rw [costR_yes hF hG] at h
      have := (dotI_bd (feedB_small hF).2 (feedB_small hG).2 6).2
      omega
    clear hF hG
    go_wp2
    go_loopw [6, 7] (fun i _ wr => ∃ k : Nat, k ≤ 6 ∧ i = .int .i64 k ∧ Below w2.heap.size w2 wr) (fun i _ _ => 6 - (intOf i).toNat)
    case atStart => exact ⟨0, by omega, rfl, Below.refl _ _⟩
    case round =>
      obtain ⟨k, hk, rfl, hbw⟩ := hrel
      by_cases hlt : k < 6
      · have hI3 := hI2.below hbw
        have hJ3 := hJ2.below hbw
        obtain ⟨x, b, of, HX, he, hbl, hcx⟩ := hI3.get hlt
        injection he with he; injection he with e1 e2; subst e1; subst e2
        obtain ⟨y, b, of, HY, he, -, -⟩ := hJ3.get hlt
        clear he
        have hx30 := small_at (feedB_small HF.out).2 HX
        have hy30 := small_at (feedB_small HG.out).2 HY
        have hwy : IntKind.i64.wrap (y + 1) = y + 1 := IntWalk.i64_in _ (by omega)
        have hwq : IntKind.i64.wrap (q + x) = q + x := IntWalk.i64_in _ (by omega)
        have hk6 : (k : Int) < 6 := by omega
        have hk0 : (0 : Int) ≤ (k : Int) := by omega
        have hne : (q + x != q + x) = false := by simp
        have hbls : g < wr.heap.size := hbl
        go_wp2_with (at_builtin; refine wpList_copyF rfl (.tmp 35) (.tmp 36) rfl hJ3 rfl rfl (by omega) ?_; intro v5 w5 hO5 hb5; obtain ⟨A5, c5, rfl, hc51, hc52⟩ := (own_ints hO5).form; obtain ⟨g5, rfl⟩ := own_block hO5 (by omega); obtain ⟨-, hz5, hg5, hg6⟩ := own_cell hO5 hlt; obtain ⟨y2, b2, of2, HY2, he2, -, hu5⟩ := (OwnAt.farInts hO5).ints.get hlt; injection he2 with he2; injection he2 with f1 f2; subst f1; subst f2; obtain rfl : y2 = y := (by have h1 := HY.out; have h2 := HY2.out; rw [h1] at h2; injection h2 with h2; exact h2.symm); simp only [Nat.zero_add] at hu5; have hcx5 := (hb5.cell (p := ⟨g, off + k, none⟩) hbls).trans hcx; have hgne : g ≠ g5 := (by omega); have hcx6 := (cell_other hgne hcx5 : (w5.setCell ⟨g5, k, none⟩ (.int .i64 (y2 + 1))).cell? ⟨g, off + k, none⟩ = some (.int .i64 x)); have hO6 := own_set (i := k) hO5 (y2 + 1))
        have hB6 : Below wr.heap.size wr (w5.setCell ⟨g5, k, none⟩ (.int .i64 (y2 + 1))) := hb5.setCell (by simp; omega) _
        have hI6 : IntsAt (w5.setCell ⟨g5, k, none⟩ (.int .i64 (y2 + 1))) (some ⟨g, off, none⟩) 6 xs := hI3.below hB6
        have hD6 : IntsAt (w5.setCell ⟨g5, k, none⟩ (.int .i64 (y2 + 1))) (some ⟨g5, 0, none⟩) 6 (ys.set k (y2 + 1)) := (OwnAt.farInts hO6).ints
        obtain ⟨y3, b3, of3, HY3, he3, -, hu6⟩ := hD6.get hlt
        injection he3 with he3; injection he3 with f1 f2; subst f1; subst f2
        obtain rfl : y3 = y2 + 1 := by
          have h2 := HY3.out
          rw [List.getElem?_set_self (by have := (feedB_small HG.out).1; omega)] at h2
          injection h2 with h2; exact h2.symm
        simp only [Nat.zero_add] at hu6
        have HI6 := Lib.hid hI6
        have HD6 := Lib.hid hD6
        have HB6 := Lib.hid hB6
        have hc63 : c5 ≤ 9223372036854775807 := by unfold maxLen at hc52; exact hc52
        clear hI6 hD6 hB6 hO5 hO6 hb5 hu5 hcx5 hI3 hJ3 hz5 hcx HY3 HY2
        generalize w5.setCell ⟨g5, k, none⟩ (.int .i64 (y2 + 1)) = w6 at *
        by_cases hy : y2 + 1 ≤ 30
        · have hyd : decide (y2 + 1 ≤ 30) = true := by simpa using hy
          have HC := Lib.hid (costR_dear HF.out HG.out HX HY hy)
          rw [HQ.out] at HC
          clear hy
          go_wp2_with fail
          refine wp_region_held_drew (S := (fun w' => w'.cell? ⟨g5, k, none⟩ = some (.int .i64 (y2 + 1)) ∧ w'.cell? ⟨g, off + k, none⟩ = some (.int .i64 x) ∧ Below w6.heap.size w6 w')) (by kernel_rfl) ?_ (fun hHeld => ?_)
          · (try dsimp only); (first | exact ⟨hu6, hcx6, (Below.refl _ _).drew⟩ | exact hHeld)
          refine wpAnyH_take (i := 0) (v := ?vq1_0) (by simp only [List.getElem?_toArray, List.getElem?_cons_zero]; rfl) (by kernel_rfl) (by kernel_rfl) (by kernel_rfl) (by exact fun _ _ _ h => h) (Or.inl ⟨by rfl, ?hq1_0⟩) hHeld ?rq1_0
          case hq1_0 => (intro w hSw; (try dsimp only at hSw); go_simp; (try with_reducible rfl))
          try simp only [put_laws]
          refine wpAnyH_take (i := 1) (v := ?vq1_1) (by simp only [List.getElem?_toArray, List.getElem?_cons_succ, List.getElem?_cons_zero]; rfl) (by kernel_rfl) (by kernel_rfl) (by kernel_rfl) (by exact fun _ _ _ h => h) (Or.inl ⟨by rfl, ?hq1_1⟩) hHeld ?rq1_1
          case hq1_1 => (intro w hSw; (try dsimp only at hSw); go_simp; (try with_reducible rfl))
          try simp only [put_laws]
          refine wpAnyH_take (i := 2) (v := ?vq1_2) (by simp only [List.getElem?_toArray, List.getElem?_cons_succ, List.getElem?_cons_zero]; rfl) (by kernel_rfl) (by kernel_rfl) (by kernel_rfl) (by exact fun _ _ _ h => h) (Or.inl ⟨by rfl, ?hq1_2⟩) hHeld ?rq1_2
          case hq1_2 => (intro w hSw; (try dsimp only at hSw); go_simp; (try with_reducible rfl))
          try simp only [put_laws]
          refine wpAnyH_take (i := 3) (v := ?vq1_3) (by simp only [List.getElem?_toArray, List.getElem?_cons_succ, List.getElem?_cons_zero]; rfl) (by kernel_rfl) (by kernel_rfl) (by kernel_rfl) (by exact fun _ _ _ h => h) (Or.inl ⟨by rfl, ?hq1_3⟩) hHeld ?rq1_3
          case hq1_3 => (intro w hSw; (try dsimp only at hSw); go_simp; (try with_reducible rfl))
          try simp only [put_laws]
          refine wpAnyH_take (i := 4) (v := ?vq1_4) (by simp only [List.getElem?_toArray, List.getElem?_cons_succ, List.getElem?_cons_zero]; rfl) (by kernel_rfl) (by kernel_rfl) (by kernel_rfl) (by exact fun _ _ _ h => h) (Or.inl ⟨by rfl, ?hq1_4⟩) hHeld ?rq1_4
          case hq1_4 => (intro w hSw; (try dsimp only at hSw); go_simp; (try with_reducible rfl))
          try simp only [put_laws]
          refine wpAnyH_take (i := 5) (v := ?vq1_5) (by simp only [List.getElem?_toArray, List.getElem?_cons_succ, List.getElem?_cons_zero]; rfl) (by kernel_rfl) (by kernel_rfl) (by kernel_rfl) (by exact fun _ _ _ h => h) (Or.inl ⟨by rfl, ?hq1_5⟩) hHeld ?rq1_5
          case hq1_5 => (intro w hSw; (try dsimp only at hSw); go_simp; (try with_reducible rfl))
          try simp only [put_laws]
          refine wpAnyH_take (i := 6) (v := ?vq1_6) (by simp only [List.getElem?_toArray, List.getElem?_cons_succ, List.getElem?_cons_zero]; rfl) (by kernel_rfl) (by kernel_rfl) (by kernel_rfl) (by exact fun _ _ _ h => h) (Or.inl ⟨by rfl, ?hq1_6⟩) hHeld ?rq1_6
          case hq1_6 => (intro w hSw; (try dsimp only at hSw); go_simp; (try with_reducible rfl))
          try simp only [put_laws]
          refine wpAnyH_take (i := 7) (v := ?vq1_7) (by simp only [List.getElem?_toArray, List.getElem?_cons_succ, List.getElem?_cons_zero]; rfl) (by kernel_rfl) (by kernel_rfl) (by kernel_rfl) (by exact fun _ _ _ h => h) (Or.inl ⟨by rfl, ?hq1_7⟩) hHeld ?rq1_7
          case hq1_7 => (intro w hSw; (try dsimp only at hSw); go_simp; (try with_reducible rfl))
          try simp only [put_laws]
          refine wpAnyH_take (i := 9) (v := ?vq1_9) (by simp only [List.getElem?_toArray, List.getElem?_cons_succ, List.getElem?_cons_zero]; rfl) (by kernel_rfl) (by kernel_rfl) (by kernel_rfl) (by exact fun _ _ _ h => h) (Or.inl ⟨by rfl, ?hq1_9⟩) hHeld ?rq1_9
          case hq1_9 => (intro w hSw; (try dsimp only at hSw); go_simp; (try with_reducible rfl))
          try simp only [put_laws]
          refine wpAnyH_take (i := 10) (v := ?vq1_10) (by simp only [List.getElem?_toArray, List.getElem?_cons_succ, List.getElem?_cons_zero]; rfl) (by kernel_rfl) (by kernel_rfl) (by kernel_rfl) (by exact fun _ _ _ h => h) (Or.inl ⟨by rfl, ?hq1_10⟩) hHeld ?rq1_10
          case hq1_10 => (intro w hSw; (try dsimp only at hSw); go_simp; (try with_reducible rfl))
          try simp only [put_laws]
          refine wpAnyH_take (i := 11) (v := ?vq1_11) (by simp only [List.getElem?_toArray, List.getElem?_cons_succ, List.getElem?_cons_zero]; rfl) (by kernel_rfl) (by kernel_rfl) (by kernel_rfl) (by exact fun _ _ _ h => h) (Or.inl ⟨by rfl, ?hq1_11⟩) hHeld ?rq1_11
          case hq1_11 => (intro w hSw; (try dsimp only at hSw); go_simp; (try with_reducible rfl))
          try simp only [put_laws]
          refine wpAnyH_take (i := 12) (v := ?vq1_12) (by simp only [List.getElem?_toArray, List.getElem?_cons_succ, List.getElem?_cons_zero]; rfl) (by kernel_rfl) (by kernel_rfl) (by kernel_rfl) (by exact fun _ _ _ h => h) (Or.inl ⟨by rfl, ?hq1_12⟩) hHeld ?rq1_12
          case hq1_12 => (intro w hSw; (try dsimp only at hSw); go_simp; (try with_reducible rfl))
          try simp only [put_laws]
          refine wpAnyH_take (i := 13) (v := ?vq1_13) (by simp only [List.getElem?_toArray, List.getElem?_cons_succ, List.getElem?_cons_zero]; rfl) (by kernel_rfl) (by kernel_rfl) (by kernel_rfl) (by exact fun _ _ _ h => h) (Or.inl ⟨by rfl, ?hq1_13⟩) hHeld ?rq1_13
          case hq1_13 => (intro w hSw; (try dsimp only at hSw); go_simp; (try with_reducible rfl))
          try simp only [put_laws]
          refine wpAnyH_take (i := 14) (v := ?vq1_14) (by simp only [List.getElem?_toArray, List.getElem?_cons_succ, List.getElem?_cons_zero]; rfl) (by kernel_rfl) (by kernel_rfl) (by kernel_rfl) (by exact fun _ _ _ h => h) (Or.inl ⟨by rfl, ?hq1_14⟩) hHeld ?rq1_14
          case hq1_14 => (intro w hSw; (try dsimp only at hSw); go_simp; (try with_reducible rfl))
          try simp only [put_laws]
          refine wpAnyH_ready (rs := [8]) (by kernel_rfl) (by simp) ?_
          refine AllReadyH.cons (by simp only [List.getElem?_toArray, List.getElem?_cons_succ, List.getElem?_cons_zero]; rfl) (fun K hK => ?_) AllReadyH.nil
          go_simp
          (refine (loadCost_any _ 6 d xs _ 6 c5 (ys.set k (y2 + 1)) _ (by omega) (HI6.out.below hHeld.2.2) (by omega) (HD6.out.below hHeld.2.2)).mono ?_; rintro e w7 ⟨rfl, rfl⟩; rw [HC.out])
          refine hK.out _ _ ?_ (fun hHeld => ?_)
          · (try dsimp only); (first | exact ⟨hu6, hcx6, (Below.refl _ _).drew⟩ | exact hHeld)
          clear hK K
          try simp only [put_laws]
          refine wpAnyH_take (i := 15) (v := ?vq1_15) (by simp only [List.getElem?_toArray, List.getElem?_cons_succ, List.getElem?_cons_zero]; rfl) (by kernel_rfl) (by kernel_rfl) (by kernel_rfl) (by exact fun _ _ _ h => h) (Or.inl ⟨by rfl, ?hq1_15⟩) hHeld ?rq1_15
          case hq1_15 => (intro w hSw; (try dsimp only at hSw); go_simp; (try with_reducible rfl))
          try simp only [put_laws]
          refine wpAnyH_take (i := 16) (v := ?vq1_16) (by simp only [List.getElem?_toArray, List.getElem?_cons_succ, List.getElem?_cons_zero]; rfl) (by kernel_rfl) (by kernel_rfl) (by kernel_rfl) (by exact fun _ _ _ h => h) (Or.inl ⟨by rfl, ?hq1_16⟩) hHeld ?rq1_16
          case hq1_16 => (intro w hSw; (try dsimp only at hSw); go_simp; (try with_reducible rfl))
          try simp only [put_laws]
          refine wpAnyH_done (by kernel_rfl) ?_ _
          go_wp2
          go_roundw
          case rel => exact ⟨k + 1, by omega, by go_num, (below_next hbw HB6.out).trans (hHeld.2.2.mono (Nat.le_trans hbw.size HB6.out.size))⟩
          case measure => simp [intOf]; omega
        · have hyd : decide (y2 + 1 ≤ 30) = false := by simpa using hy
          clear hy
          go_wp2_with fail
          refine wp_region_held_drew (S := (fun w' => w'.cell? ⟨g5, k, none⟩ = some (.int .i64 (y2 + 1)) ∧ w'.cell? ⟨g, off + k, none⟩ = some (.int .i64 x) ∧ Below w6.heap.size w6 w')) (by kernel_rfl) ?_ (fun hHeld => ?_)
          · (try dsimp only); (first | exact ⟨hu6, hcx6, (Below.refl _ _).drew⟩ | exact hHeld)
          refine wpAnyH_take (i := 0) (v := ?vq2_0) (by simp only [List.getElem?_toArray, List.getElem?_cons_zero]; rfl) (by kernel_rfl) (by kernel_rfl) (by kernel_rfl) (by exact fun _ _ _ h => h) (Or.inl ⟨by rfl, ?hq2_0⟩) hHeld ?rq2_0
          case hq2_0 => (intro w hSw; (try dsimp only at hSw); go_simp; (try with_reducible rfl))
          try simp only [put_laws]
          refine wpAnyH_take (i := 1) (v := ?vq2_1) (by simp only [List.getElem?_toArray, List.getElem?_cons_succ, List.getElem?_cons_zero]; rfl) (by kernel_rfl) (by kernel_rfl) (by kernel_rfl) (by exact fun _ _ _ h => h) (Or.inl ⟨by rfl, ?hq2_1⟩) hHeld ?rq2_1
          case hq2_1 => (intro w hSw; (try dsimp only at hSw); go_simp; (try with_reducible rfl))
          try simp only [put_laws]
          refine wpAnyH_take (i := 2) (v := ?vq2_2) (by simp only [List.getElem?_toArray, List.getElem?_cons_succ, List.getElem?_cons_zero]; rfl) (by kernel_rfl) (by kernel_rfl) (by kernel_rfl) (by exact fun _ _ _ h => h) (Or.inl ⟨by rfl, ?hq2_2⟩) hHeld ?rq2_2
          case hq2_2 => (intro w hSw; (try dsimp only at hSw); go_simp; (try with_reducible rfl))
          try simp only [put_laws]
          refine wpAnyH_take (i := 3) (v := ?vq2_3) (by simp only [List.getElem?_toArray, List.getElem?_cons_succ, List.getElem?_cons_zero]; rfl) (by kernel_rfl) (by kernel_rfl) (by kernel_rfl) (by exact fun _ _ _ h => h) (Or.inl ⟨by rfl, ?hq2_3⟩) hHeld ?rq2_3
          case hq2_3 => (intro w hSw; (try dsimp only at hSw); go_simp; (try with_reducible rfl))
          try simp only [put_laws]
          refine wpAnyH_take (i := 4) (v := ?vq2_4) (by simp only [List.getElem?_toArray, List.getElem?_cons_succ, List.getElem?_cons_zero]; rfl) (by kernel_rfl) (by kernel_rfl) (by kernel_rfl) (by exact fun _ _ _ h => h) (Or.inl ⟨by rfl, ?hq2_4⟩) hHeld ?rq2_4
          case hq2_4 => (intro w hSw; (try dsimp only at hSw); go_simp; (try with_reducible rfl))
          try simp only [put_laws]
          refine wpAnyH_take (i := 5) (v := ?vq2_5) (by simp only [List.getElem?_toArray, List.getElem?_cons_succ, List.getElem?_cons_zero]; rfl) (by kernel_rfl) (by kernel_rfl) (by kernel_rfl) (by exact fun _ _ _ h => h) (Or.inl ⟨by rfl, ?hq2_5⟩) hHeld ?rq2_5
          case hq2_5 => (intro w hSw; (try dsimp only at hSw); go_simp; (try with_reducible rfl))
          try simp only [put_laws]
          refine wpAnyH_take (i := 6) (v := undef) (by simp only [List.getElem?_toArray, List.getElem?_cons_succ, List.getElem?_cons_zero]; rfl) (by kernel_rfl) (by kernel_rfl) (by kernel_rfl) (by exact fun _ _ _ h => h) (Or.inr ⟨by rfl, rfl⟩) hHeld ?_
          try simp only [put_laws]
          refine wpAnyH_take (i := 7) (v := undef) (by simp only [List.getElem?_toArray, List.getElem?_cons_succ, List.getElem?_cons_zero]; rfl) (by kernel_rfl) (by kernel_rfl) (by kernel_rfl) (by exact fun _ _ _ h => h) (Or.inr ⟨by rfl, rfl⟩) hHeld ?_
          try simp only [put_laws]
          refine wpAnyH_take (i := 8) (v := undef) (by simp only [List.getElem?_toArray, List.getElem?_cons_succ, List.getElem?_cons_zero]; rfl) (by kernel_rfl) (by kernel_rfl) (by kernel_rfl) (by exact fun _ _ _ h => h) (Or.inr ⟨by rfl, rfl⟩) hHeld ?_
          try simp only [put_laws]
          refine wpAnyH_take (i := 9) (v := undef) (by simp only [List.getElem?_toArray, List.getElem?_cons_succ, List.getElem?_cons_zero]; rfl) (by kernel_rfl) (by kernel_rfl) (by kernel_rfl) (by exact fun _ _ _ h => h) (Or.inr ⟨by rfl, rfl⟩) hHeld ?_
          try simp only [put_laws]
          refine wpAnyH_take (i := 10) (v := undef) (by simp only [List.getElem?_toArray, List.getElem?_cons_succ, List.getElem?_cons_zero]; rfl) (by kernel_rfl) (by kernel_rfl) (by kernel_rfl) (by exact fun _ _ _ h => h) (Or.inr ⟨by rfl, rfl⟩) hHeld ?_
          try simp only [put_laws]
          refine wpAnyH_take (i := 11) (v := undef) (by simp only [List.getElem?_toArray, List.getElem?_cons_succ, List.getElem?_cons_zero]; rfl) (by kernel_rfl) (by kernel_rfl) (by kernel_rfl) (by exact fun _ _ _ h => h) (Or.inr ⟨by rfl, rfl⟩) hHeld ?_
          try simp only [put_laws]
          refine wpAnyH_take (i := 12) (v := undef) (by simp only [List.getElem?_toArray, List.getElem?_cons_succ, List.getElem?_cons_zero]; rfl) (by kernel_rfl) (by kernel_rfl) (by kernel_rfl) (by exact fun _ _ _ h => h) (Or.inr ⟨by rfl, rfl⟩) hHeld ?_
          try simp only [put_laws]
          refine wpAnyH_take (i := 13) (v := undef) (by simp only [List.getElem?_toArray, List.getElem?_cons_succ, List.getElem?_cons_zero]; rfl) (by kernel_rfl) (by kernel_rfl) (by kernel_rfl) (by exact fun _ _ _ h => h) (Or.inr ⟨by rfl, rfl⟩) hHeld ?_
          try simp only [put_laws]
          refine wpAnyH_take (i := 14) (v := undef) (by simp only [List.getElem?_toArray, List.getElem?_cons_succ, List.getElem?_cons_zero]; rfl) (by kernel_rfl) (by kernel_rfl) (by kernel_rfl) (by exact fun _ _ _ h => h) (Or.inr ⟨by rfl, rfl⟩) hHeld ?_
          try simp only [put_laws]
          refine wpAnyH_take (i := 15) (v := undef) (by simp only [List.getElem?_toArray, List.getElem?_cons_succ, List.getElem?_cons_zero]; rfl) (by kernel_rfl) (by kernel_rfl) (by kernel_rfl) (by exact fun _ _ _ h => h) (Or.inr ⟨by rfl, rfl⟩) hHeld ?_
          try simp only [put_laws]
          refine wpAnyH_take (i := 16) (v := ?vq2_16) (by simp only [List.getElem?_toArray, List.getElem?_cons_succ, List.getElem?_cons_zero]; rfl) (by kernel_rfl) (by kernel_rfl) (by kernel_rfl) (by exact fun _ _ _ h => h) (Or.inl ⟨by rfl, ?hq2_16⟩) hHeld ?rq2_16
          case hq2_16 => (intro w hSw; (try dsimp only at hSw); go_simp; (try with_reducible rfl))
          try simp only [put_laws]
          refine wpAnyH_done (by kernel_rfl) ?_ _
          go_wp2
          go_roundw
          case rel => exact ⟨k + 1, by omega, by go_num, (below_next hbw HB6.out).trans (hHeld.2.2.mono (Nat.le_trans hbw.size HB6.out.size))⟩
          case measure => simp [intOf]; omega
      · obtain rfl : k = 6 := by omega
        have HC := Lib.hid (costR_comm ys xs)
        rw [HQ.out] at HC
        have hqq : (q == q) = true := by simp
        go_wp2_with fail
        refine (loadCost_any _ 6 d2 ys _ 6 d xs _ (by omega) (hJ2.below hbw) (by omega) (hI2.below hbw)).mono ?_; rintro e w7 ⟨rfl, rfl⟩
        rw [HC.out]
        go_wp2
        go_ret
        exact ⟨rfl, below_next hB2 hbw⟩
end Go.Proofs.YtobkljhbmeglpaaDoor
