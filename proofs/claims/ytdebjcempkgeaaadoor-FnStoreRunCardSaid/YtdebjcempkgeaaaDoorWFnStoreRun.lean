/-
  The law FnStoreRun: all new cars are stored, each once, as far as there are free cells; all of them and those of before are there.
-/
import Derived.Test.YtdebjcempkgeaaaDoorDrStoR
import Derived.Test.YtdebjcempkgeaaaDoorRunB
import Derived.Test.YtdebjcempkgeaaaDoorRunP
import Derived.Test.YtdebjcempkgeaaaDoorHCars
import Derived.Test.YtdebjcempkgeaaaDoorAlive
namespace Go.Proofs.YtdebjcempkgeaaaDoor
open Go.ChangeShapes Go.WideShapes Go.ChangeAt Go.RowKit

theorem idx_neg {g : List Int} {x : Int} : Lib.idxOf g x < 0 ↔ x ∉ g := by
  have h := Lib.idxOf_nonneg_iff g x
  constructor
  · intro h1 h2
    have : 0 ≤ Lib.idxOf g x := by rw [h]; simpa using h2
    omega
  · intro h1
    have h2 : ¬ 0 ≤ Lib.idxOf g x := by rw [h]; simpa using h1
    omega
/-- The first k cars are good. -/
def goodK (g ids : List Int) (k : Nat) : Prop := ∀ j, j < k → 1 ≤ ids.getD j 0 ∧ ids.getD j 0 ≤ 99 ∧ ids.getD j 0 ∉ g ∧ ids.getD j 0 ∉ ids.take j
theorem goodK_next {g ids : List Int} {k : Nat} {x : Int} (h : goodK g ids k) (hx : Hid (ids[k]? = some x)) (h1 : 1 ≤ x) (h2 : x ≤ 99) (h3 : x ∉ g) (h4 : x ∉ ids.take k) : goodK g ids (k + 1) := by
  intro j hj
  by_cases he : j = k
  · subst he
    have e : ids.getD j 0 = x := by rw [List.getD_eq_getElem?_getD, hx.out]; rfl
    rw [e]; exact ⟨h1, h2, h3, h4⟩
  · exact h j (by omega)

set_option maxRecDepth 100000 in
set_option maxHeartbeats 8000000 in
theorem lawStoreRun (A : Option Addr) (n c : Nat) (bs : List Int) (w : World) (hn : n ≤ c ∧ c ≤ 9223372036854775807) (hb : BytesAt w A n bs) :
    Calls Tryd.prog 3 #[.slice A n c] w (RV w (.bool true)) := by
  obtain ⟨hn1, hn2⟩ := hn
  by_cases hbig : 1048576 < n
  · have hd : decide (1048576 < n) = true := by simpa using hbig
    go_enter Tryd.func3, Tryd.ntmps3
    go_wp2
    go_ret
    exact ⟨rfl, Below.refl _ _⟩
  have hd : decide (1048576 < n) = false := by simpa using hbig
  have HB := Lib.hid hb
  clear hb
  go_enter Tryd.func3, Tryd.ntmps3
  go_wp2_with fail
  refine (drawStoreRun_any w A n c bs ⟨hn1, hn2⟩ HB.out).mono ?_; rintro e w1 ⟨wd, dp, G, m, d, g, I, l, lc, ids, rfl, hG1, hm4, hm13, hI1, hl5, hb1⟩
  clear HB hn1 hn2 hbig hd
  have HGL := Lib.hid (show g.length = m by have := hG1.1; simpa using this)
  have HIL := Lib.hid (show ids.length = l by have := hI1.1; simpa using this)
  have hH2 := Whole.new w1 25 [.int .i64 wd, .int .i64 dp, .slice (some ⟨G, 0, none⟩) m d]
  have hbA : Below w1.heap.size w1 (w1.alloc (.cells #[.int .i64 wd, .int .i64 dp, .slice (some ⟨G, 0, none⟩) m d] 25)) := (Below.refl _ _).alloc (Nat.le_refl _) _
  have hG2 := ints_own (own_keep hG1 hbA)
  have hI2 := ints_own (own_keep hI1 hbA)
  have hB2 := below_next hb1 hbA
  have hGd := hG2.2
  have hId := hI2.2
  unfold maxLen at hGd hId
  obtain ⟨H, HH⟩ : ∃ H, Hid (H = w1.heap.size) := ⟨_, rfl⟩
  rw [← HH.out] at hH2
  go_wp2_with fail
  rw [← HH.out]
  clear HH hG1 hI1 hb1 hbA
  generalize w1.alloc (.cells #[.int .i64 wd, .int .i64 dp, .slice (some ⟨G, 0, none⟩) m d] 25) = w2 at *
  obtain ⟨hG2, -⟩ := hG2
  obtain ⟨hI2, -⟩ := hI2
  cases hv : hallB wd dp g
  · refine (storeRun_bad wd dp (some ⟨G, 0, none⟩) m d g _ w2 (by omega) hG2 hv).mono ?_; rintro e w3 ⟨rfl, hb3⟩
    have hX := Whole.new w3 25 [.int .i64 0, .int .i64 0, .slice none 0 0]
    have hbX : Below w3.heap.size w3 (w3.alloc (.cells #[.int .i64 0, .int .i64 0, .slice none 0 0] 25)) := (Below.refl _ _).alloc (Nat.le_refl _) _
    have hH4 := (hH2.below hb3).below hbX
    have hG4 := (hG2.below hb3).below hbX
    have hB4 := below_next (below_next hB2 hb3) hbX
    obtain ⟨X, HX⟩ : ∃ X, Hid (X = w3.heap.size) := ⟨_, rfl⟩
    have hHX : H < X := by rw [HX.out]; exact (hH2.below hb3).lt
    rw [← HX.out] at hX
    clear hH2 hG2 hI2 hB2 hb3 hbX
    have m0 := hH4.cell 0
    have m1 := hH4.cell 1
    have m2 := hH4.cell 2
    simp only [List.getElem?_cons_zero, List.getElem?_cons_succ] at m0 m1 m2
    go_wp2_with fail
    rw [← HX.out]
    clear HX
    generalize w3.alloc (.cells #[.int .i64 0, .int .i64 0, .slice none 0 0] 25) = w4 at *
    refine (specStoreRun_bad wd dp (some ⟨G, 0, none⟩) m d g _ w4 (by omega) (by omega) hG4 hv).mono ?_; rintro e w5 ⟨rfl, hb5⟩
    have hY := Whole.new w5 25 [.int .i64 0, .int .i64 0, .slice none 0 0]
    have hbY : Below w5.heap.size w5 (w5.alloc (.cells #[.int .i64 0, .int .i64 0, .slice none 0 0] 25)) := (Below.refl _ _).alloc (Nat.le_refl _) _
    have hH6 := (hH4.below hb5).below hbY
    have hX6 := (hX.below hb5).below hbY
    have hG6 := (hG4.below hb5).below hbY
    have hB6 := below_next (below_next hB4 hb5) hbY
    obtain ⟨Y, HY⟩ : ∃ Y, Hid (Y = w5.heap.size) := ⟨_, rfl⟩
    have hXY : X < Y := by rw [HY.out]; exact (hX.below hb5).lt
    rw [← HY.out] at hY
    clear hH4 hX hG4 hB4 hb5 hbY m0 m1 m2
    have x0 := hX6.cell 0
    have x1 := hX6.cell 1
    have x2 := hX6.cell 2
    have y0 := hY.cell 0
    have y1 := hY.cell 1
    have y2 := hY.cell 2
    simp only [List.getElem?_cons_zero, List.getElem?_cons_succ] at x0 x1 x2 y0 y1 y2
    go_wp2_with fail
    rw [← HY.out]
    clear HY
    generalize w5.alloc (.cells #[.int .i64 0, .int .i64 0, .slice none 0 0] 25) = w6 at *
    refine (sameHall_self 0 0 none none 0 0 0 0 [] w6 (by omega) (SlAt.nil _ _ _) (SlAt.nil _ _ _)).mono ?_; rintro e w7 ⟨rfl, hb7⟩
    have hH7 := hH6.below hb7
    have hX7 := hX6.below hb7
    have hG7 := hG6.below hb7
    have hB7 := below_next hB6 hb7
    clear hH6 hX6 hG6 hB6 hb7 hY x0 x1 x2 y0 y1 y2
    have m0 := hH7.cell 0
    have m1 := hH7.cell 1
    have m2 := hH7.cell 2
    simp only [List.getElem?_cons_zero, List.getElem?_cons_succ] at m0 m1 m2
    go_wp2_with fail
    refine (specHallValid_any wd dp (some ⟨G, 0, none⟩) m d g w7 (by omega) (by omega) hG7).mono ?_; rintro e w8 ⟨rfl, hb8⟩
    rw [hv]
    have hX8 := hX7.below hb8
    have hB8 := below_next hB7 hb8
    clear hH7 hX7 hG7 hB7 hb8 m0 m1 m2
    have x0 := hX8.cell 0
    simp only [List.getElem?_cons_zero] at x0
    go_wp2_with fail
    refine (alive_any w8).mono ?_; rintro e w9 ⟨rfl, hb9⟩
    have hB9 := below_next hB8 hb9
    go_wp2
    go_ret
    exact ⟨rfl, hB9⟩
  obtain ⟨W, D, rfl, rfl, S⟩ := Shp.of_hallB hv
  rw [HGL.out] at S
  have hA2 : HallAt w2 W D m (some ⟨G, 0, none⟩) d g := ⟨S, hG2, by omega, hv⟩
  have HV := Lib.hid hv
  clear hv hG2
  refine (storeRun_any W D m (some ⟨G, 0, none⟩) d g (some ⟨I, 0, none⟩) l lc ids w2 hA2 hI2 (by omega) (by omega)).mono ?_; rintro e w3 ⟨k, G3, c3, HR, rfl, hO3, hb3⟩
  have hX := Whole.new w3 25 [.int .i64 W, .int .i64 D, .slice (some ⟨G3, 0, none⟩) m c3]
  have hbX : Below w3.heap.size w3 (w3.alloc (.cells #[.int .i64 W, .int .i64 D, .slice (some ⟨G3, 0, none⟩) m c3] 25)) := (Below.refl _ _).alloc (Nat.le_refl _) _
  have hH4 := (hH2.below hb3).below hbX
  have hA4 := (hA2.below hb3).below hbX
  have hI4 := (hI2.below hb3).below hbX
  have hB4 := below_next (below_next hB2 hb3) hbX
  have HOK := Lib.hid (stk_ok (ids := ids) S HGL.out HV.out k)
  have hA34 := hallAt_own S HOK.out.1 (own_keep hO3 hbX)
  have hkl := HR.out.le
  rw [HIL.out] at hkl
  obtain ⟨X, HX⟩ : ∃ X, Hid (X = w3.heap.size) := ⟨_, rfl⟩
  have hHX : H < X := by rw [HX.out]; exact (hH2.below hb3).lt
  rw [← HX.out] at hX
  clear hH2 hA2 hI2 hB2 hb3 hbX hO3
  have m0 := hH4.cell 0
  have m1 := hH4.cell 1
  have m2 := hH4.cell 2
  simp only [List.getElem?_cons_zero, List.getElem?_cons_succ] at m0 m1 m2
  go_wp2_with fail
  rw [← HX.out]
  clear HX
  generalize w3.alloc (.cells #[.int .i64 W, .int .i64 D, .slice (some ⟨G3, 0, none⟩) m c3] 25) = w4 at *
  refine (specStoreRun_any W D m (some ⟨G, 0, none⟩) d g (some ⟨I, 0, none⟩) l lc ids w4 hA4 hI4 (by omega) (by omega)).mono ?_; rintro e w5 ⟨k', G5, c5, HR5, rfl, hO5, hb5⟩
  obtain rfl : k' = k := HR5.out.one HR.out
  clear HR5
  have hY := Whole.new w5 25 [.int .i64 W, .int .i64 D, .slice (some ⟨G5, 0, none⟩) m c5]
  have hbY : Below w5.heap.size w5 (w5.alloc (.cells #[.int .i64 W, .int .i64 D, .slice (some ⟨G5, 0, none⟩) m c5] 25)) := (Below.refl _ _).alloc (Nat.le_refl _) _
  have hH6 := (hH4.below hb5).below hbY
  have hX6 := (hX.below hb5).below hbY
  have hA6 := (hA4.below hb5).below hbY
  have hA36 := (hA34.below hb5).below hbY
  have hI6 := (hI4.below hb5).below hbY
  have hO6 := own_keep hO5 hbY
  have hB6 := below_next (below_next hB4 hb5) hbY
  obtain ⟨Y, HY⟩ : ∃ Y, Hid (Y = w5.heap.size) := ⟨_, rfl⟩
  have hXY : X < Y := by rw [HY.out]; exact (hX.below hb5).lt
  rw [← HY.out] at hY
  clear hH4 hX hA4 hA34 hI4 hB4 hb5 hbY hO5 m0 m1 m2
  have x0 := hX6.cell 0
  have x1 := hX6.cell 1
  have x2 := hX6.cell 2
  have y0 := hY.cell 0
  have y1 := hY.cell 1
  have y2 := hY.cell 2
  simp only [List.getElem?_cons_zero, List.getElem?_cons_succ] at x0 x1 x2 y0 y1 y2
  go_wp2_with fail
  rw [← HY.out]
  clear HY
  generalize w5.alloc (.cells #[.int .i64 W, .int .i64 D, .slice (some ⟨G5, 0, none⟩) m c5] 25) = w6 at *
  refine (sameHall_self W D (some ⟨G3, 0, none⟩) (some ⟨G5, 0, none⟩) m c3 m c5 _ w6 (by omega) hA36.ints (ints_own hO6).1).mono ?_; rintro e w7 ⟨rfl, hb7⟩
  have hH7 := hH6.below hb7
  have hX7 := hX6.below hb7
  have hA7 := hA6.below hb7
  have hA37 := hA36.below hb7
  have hI7 := hI6.below hb7
  have hB7 := below_next hB6 hb7
  clear hH6 hX6 hA6 hA36 hI6 hB6 hb7 hY hO6 x0 x1 x2 y0 y1 y2
  have m0 := hH7.cell 0
  have m1 := hH7.cell 1
  have m2 := hH7.cell 2
  simp only [List.getElem?_cons_zero, List.getElem?_cons_succ] at m0 m1 m2
  have hkk : (((k' : Nat) : Int) != ((k' : Nat) : Int)) = false := by simp
  go_wp2_with fail
  refine (specHallValid_any W D (some ⟨G, 0, none⟩) m d g w7 (by omega) (by omega) hA7.ints).mono ?_; rintro e w8 ⟨rfl, hb8⟩
  rw [HV.out]
  have hH8 := hH7.below hb8
  have hX8 := hX7.below hb8
  have hA8 := hA7.below hb8
  have hA38 := hA37.below hb8
  have hI8 := hI7.below hb8
  have hB8 := below_next hB7 hb8
  clear hH7 hX7 hA7 hA37 hI7 hB7 hb8 m0 m1 m2 hkk
  go_wp2
  go_loopw [9, 10] (fun vg vi wr => ∃ (j : Nat) (b : Bool), j ≤ l ∧ vi = .int .i64 j ∧ vg = .bool b ∧ Hid (b = true → goodK g ids j) ∧ Below w8.heap.size w8 wr) (fun _ i _ => l - (intOf i).toNat)
  case atStart => exact ⟨0, true, Nat.zero_le _, rfl, rfl, Lib.hid (fun _ j hj => by omega), Below.refl _ _⟩
  case round =>
    obtain ⟨j, b, hj, rfl, rfl, HGK, hbw⟩ := hrel
    obtain ⟨w9, rfl⟩ : ∃ w9, w9 = wr := ⟨_, rfl⟩
    have hH9 := hH8.below hbw
    have hX9 := hX8.below hbw
    have hA9 := Lib.hid (hA8.below hbw)
    have hA39 := Lib.hid (hA38.below hbw)
    have hI9 := Lib.hid (hI8.below hbw)
    have hB9 := below_next hB8 hbw
    by_cases hlt : j < l
    · obtain ⟨id, bI, off, HID, hAI, hbI, hc⟩ := hI9.out.get hlt
      injection hAI with hAI; injection hAI with e1 e2; subst e1; subst e2
      simp only [Nat.zero_add] at hc
      have m0 := hH9.cell 0
      have m1 := hH9.cell 1
      have m2 := hH9.cell 2
      simp only [List.getElem?_cons_zero, List.getElem?_cons_succ] at m0 m1 m2
      have j1 : (0 : Int) ≤ (j : Int) := by omega
      have j2 : (j : Int) < (l : Int) := by omega
      have j3 : (j : Int) ≤ (lc : Int) := by omega
      have hbd : Below w8.heap.size w8 w9.drew := hbw.drew
      cases b
      · skip
        go_upto_region 14 with fail
        refine wp_region_held_drew (S := (fun w' => w'.cell? ⟨H, 0, none⟩ = some (.int .i64 W) ∧ w'.cell? ⟨H, 1, none⟩ = some (.int .i64 D) ∧ w'.cell? ⟨H, 2, none⟩ = some (.slice (some ⟨G, 0, none⟩) m d) ∧ w'.cell? ⟨I, j, none⟩ = some (.int .i64 id))) (by kernel_rfl) ?_ (fun hHeld => ?_)
        · (try dsimp only); first | exact ⟨m0, m1, m2, hc⟩ | exact ⟨(hH9.below hbF).cell 0, (hH9.below hbF).cell 1, (hH9.below hbF).cell 2, (hbF.cell (p := ⟨I, j, none⟩) hbI).trans hc⟩
        refine wpAnyH_take (i := 0) (v := ?vq1_0_1) (by simp only [List.getElem?_toArray, List.getElem?_cons_zero]; rfl) (by kernel_rfl) (by kernel_rfl) (by kernel_rfl) (by exact fun _ _ _ h => h) (Or.inl ⟨by rfl, ?hq1_0_1⟩) hHeld ?rq1_0_1
        case hq1_0_1 => (intro w hSw; (try dsimp only at hSw); go_simp; (try with_reducible rfl))
        try simp only [put_laws]
        refine wpAnyH_take (i := 1) (v := ?vq1_1_2) (by simp only [List.getElem?_toArray, List.getElem?_cons_succ, List.getElem?_cons_zero]; rfl) (by kernel_rfl) (by kernel_rfl) (by kernel_rfl) (by exact fun _ _ _ h => h) (Or.inl ⟨by rfl, ?hq1_1_2⟩) hHeld ?rq1_1_2
        case hq1_1_2 => (intro w hSw; (try dsimp only at hSw); go_simp; (try with_reducible rfl))
        try simp only [put_laws]
        refine wpAnyH_take (i := 2) (v := undef) (by simp only [List.getElem?_toArray, List.getElem?_cons_succ, List.getElem?_cons_zero]; rfl) (by kernel_rfl) (by kernel_rfl) (by kernel_rfl) (by exact fun _ _ _ h => h) (Or.inr ⟨by rfl, rfl⟩) hHeld ?_
        try simp only [put_laws]
        refine wpAnyH_take (i := 3) (v := undef) (by simp only [List.getElem?_toArray, List.getElem?_cons_succ, List.getElem?_cons_zero]; rfl) (by kernel_rfl) (by kernel_rfl) (by kernel_rfl) (by exact fun _ _ _ h => h) (Or.inr ⟨by rfl, rfl⟩) hHeld ?_
        try simp only [put_laws]
        refine wpAnyH_take (i := 4) (v := undef) (by simp only [List.getElem?_toArray, List.getElem?_cons_succ, List.getElem?_cons_zero]; rfl) (by kernel_rfl) (by kernel_rfl) (by kernel_rfl) (by exact fun _ _ _ h => h) (Or.inr ⟨by rfl, rfl⟩) hHeld ?_
        try simp only [put_laws]
        refine wpAnyH_take (i := 5) (v := undef) (by simp only [List.getElem?_toArray, List.getElem?_cons_succ, List.getElem?_cons_zero]; rfl) (by kernel_rfl) (by kernel_rfl) (by kernel_rfl) (by exact fun _ _ _ h => h) (Or.inr ⟨by rfl, rfl⟩) hHeld ?_
        try simp only [put_laws]
        refine wpAnyH_take (i := 6) (v := undef) (by simp only [List.getElem?_toArray, List.getElem?_cons_succ, List.getElem?_cons_zero]; rfl) (by kernel_rfl) (by kernel_rfl) (by kernel_rfl) (by exact fun _ _ _ h => h) (Or.inr ⟨by rfl, rfl⟩) hHeld ?_
        try simp only [put_laws]
        refine wpAnyH_take (i := 7) (v := ?vq1_7_8) (by simp only [List.getElem?_toArray, List.getElem?_cons_succ, List.getElem?_cons_zero]; rfl) (by kernel_rfl) (by kernel_rfl) (by kernel_rfl) (by exact fun _ _ _ h => h) (Or.inl ⟨by rfl, ?hq1_7_8⟩) hHeld ?rq1_7_8
        case hq1_7_8 => (intro w hSw; (try dsimp only at hSw); go_simp; (try with_reducible rfl))
        try simp only [put_laws]
        refine wpAnyH_take (i := 8) (v := ?vq1_8_9) (by simp only [List.getElem?_toArray, List.getElem?_cons_succ, List.getElem?_cons_zero]; rfl) (by kernel_rfl) (by kernel_rfl) (by kernel_rfl) (by exact fun _ _ _ h => h) (Or.inl ⟨by rfl, ?hq1_8_9⟩) hHeld ?rq1_8_9
        case hq1_8_9 => (intro w hSw; (try dsimp only at hSw); go_simp; (try with_reducible rfl))
        try simp only [put_laws]
        refine wpAnyH_take (i := 9) (v := undef) (by simp only [List.getElem?_toArray, List.getElem?_cons_succ, List.getElem?_cons_zero]; rfl) (by kernel_rfl) (by kernel_rfl) (by kernel_rfl) (by exact fun _ _ _ h => h) (Or.inr ⟨by rfl, rfl⟩) hHeld ?_
        try simp only [put_laws]
        refine wpAnyH_take (i := 10) (v := undef) (by simp only [List.getElem?_toArray, List.getElem?_cons_succ, List.getElem?_cons_zero]; rfl) (by kernel_rfl) (by kernel_rfl) (by kernel_rfl) (by exact fun _ _ _ h => h) (Or.inr ⟨by rfl, rfl⟩) hHeld ?_
        try simp only [put_laws]
        refine wpAnyH_take (i := 11) (v := undef) (by simp only [List.getElem?_toArray, List.getElem?_cons_succ, List.getElem?_cons_zero]; rfl) (by kernel_rfl) (by kernel_rfl) (by kernel_rfl) (by exact fun _ _ _ h => h) (Or.inr ⟨by rfl, rfl⟩) hHeld ?_
        try simp only [put_laws]
        refine wpAnyH_take (i := 12) (v := undef) (by simp only [List.getElem?_toArray, List.getElem?_cons_succ, List.getElem?_cons_zero]; rfl) (by kernel_rfl) (by kernel_rfl) (by kernel_rfl) (by exact fun _ _ _ h => h) (Or.inr ⟨by rfl, rfl⟩) hHeld ?_
        try simp only [put_laws]
        refine wpAnyH_take (i := 13) (v := undef) (by simp only [List.getElem?_toArray, List.getElem?_cons_succ, List.getElem?_cons_zero]; rfl) (by kernel_rfl) (by kernel_rfl) (by kernel_rfl) (by exact fun _ _ _ h => h) (Or.inr ⟨by rfl, rfl⟩) hHeld ?_
        try simp only [put_laws]
        refine wpAnyH_take (i := 14) (v := ?vq1_14_15) (by simp only [List.getElem?_toArray, List.getElem?_cons_succ, List.getElem?_cons_zero]; rfl) (by kernel_rfl) (by kernel_rfl) (by kernel_rfl) (by exact fun _ _ _ h => h) (Or.inl ⟨by rfl, ?hq1_14_15⟩) hHeld ?rq1_14_15
        case hq1_14_15 => (intro w hSw; (try dsimp only at hSw); go_simp; (try with_reducible rfl))
        try simp only [put_laws]
        refine wpAnyH_take (i := 15) (v := ?vq1_15_16) (by simp only [List.getElem?_toArray, List.getElem?_cons_succ, List.getElem?_cons_zero]; rfl) (by kernel_rfl) (by kernel_rfl) (by kernel_rfl) (by exact fun _ _ _ h => h) (Or.inl ⟨by rfl, ?hq1_15_16⟩) hHeld ?rq1_15_16
        case hq1_15_16 => (intro w hSw; (try dsimp only at hSw); go_simp; (try with_reducible rfl))
        try simp only [put_laws]
        refine wpAnyH_take (i := 16) (v := undef) (by simp only [List.getElem?_toArray, List.getElem?_cons_succ, List.getElem?_cons_zero]; rfl) (by kernel_rfl) (by kernel_rfl) (by kernel_rfl) (by exact fun _ _ _ h => h) (Or.inr ⟨by rfl, rfl⟩) hHeld ?_
        try simp only [put_laws]
        refine wpAnyH_take (i := 17) (v := undef) (by simp only [List.getElem?_toArray, List.getElem?_cons_succ, List.getElem?_cons_zero]; rfl) (by kernel_rfl) (by kernel_rfl) (by kernel_rfl) (by exact fun _ _ _ h => h) (Or.inr ⟨by rfl, rfl⟩) hHeld ?_
        try simp only [put_laws]
        refine wpAnyH_take (i := 18) (v := undef) (by simp only [List.getElem?_toArray, List.getElem?_cons_succ, List.getElem?_cons_zero]; rfl) (by kernel_rfl) (by kernel_rfl) (by kernel_rfl) (by exact fun _ _ _ h => h) (Or.inr ⟨by rfl, rfl⟩) hHeld ?_
        try simp only [put_laws]
        refine wpAnyH_take (i := 19) (v := undef) (by simp only [List.getElem?_toArray, List.getElem?_cons_succ, List.getElem?_cons_zero]; rfl) (by kernel_rfl) (by kernel_rfl) (by kernel_rfl) (by exact fun _ _ _ h => h) (Or.inr ⟨by rfl, rfl⟩) hHeld ?_
        try simp only [put_laws]
        refine wpAnyH_take (i := 20) (v := undef) (by simp only [List.getElem?_toArray, List.getElem?_cons_succ, List.getElem?_cons_zero]; rfl) (by kernel_rfl) (by kernel_rfl) (by kernel_rfl) (by exact fun _ _ _ h => h) (Or.inr ⟨by rfl, rfl⟩) hHeld ?_
        try simp only [put_laws]
        refine wpAnyH_take (i := 21) (v := undef) (by simp only [List.getElem?_toArray, List.getElem?_cons_succ, List.getElem?_cons_zero]; rfl) (by kernel_rfl) (by kernel_rfl) (by kernel_rfl) (by exact fun _ _ _ h => h) (Or.inr ⟨by rfl, rfl⟩) hHeld ?_
        try simp only [put_laws]
        refine wpAnyH_take (i := 22) (v := undef) (by simp only [List.getElem?_toArray, List.getElem?_cons_succ, List.getElem?_cons_zero]; rfl) (by kernel_rfl) (by kernel_rfl) (by kernel_rfl) (by exact fun _ _ _ h => h) (Or.inr ⟨by rfl, rfl⟩) hHeld ?_
        try simp only [put_laws]
        refine wpAnyH_take (i := 23) (v := ?vq1_23_24) (by simp only [List.getElem?_toArray, List.getElem?_cons_succ, List.getElem?_cons_zero]; rfl) (by kernel_rfl) (by kernel_rfl) (by kernel_rfl) (by exact fun _ _ _ h => h) (Or.inl ⟨by rfl, ?hq1_23_24⟩) hHeld ?rq1_23_24
        case hq1_23_24 => (intro w hSw; (try dsimp only at hSw); go_simp; (try with_reducible rfl))
        try simp only [put_laws]
        refine wpAnyH_take (i := 24) (v := ?vq1_24_25) (by simp only [List.getElem?_toArray, List.getElem?_cons_succ, List.getElem?_cons_zero]; rfl) (by kernel_rfl) (by kernel_rfl) (by kernel_rfl) (by exact fun _ _ _ h => h) (Or.inl ⟨by rfl, ?hq1_24_25⟩) hHeld ?rq1_24_25
        case hq1_24_25 => (intro w hSw; (try dsimp only at hSw); go_simp; (try with_reducible rfl))
        try simp only [put_laws]
        refine wpAnyH_take (i := 25) (v := undef) (by simp only [List.getElem?_toArray, List.getElem?_cons_succ, List.getElem?_cons_zero]; rfl) (by kernel_rfl) (by kernel_rfl) (by kernel_rfl) (by exact fun _ _ _ h => h) (Or.inr ⟨by rfl, rfl⟩) hHeld ?_
        try simp only [put_laws]
        refine wpAnyH_take (i := 26) (v := undef) (by simp only [List.getElem?_toArray, List.getElem?_cons_succ, List.getElem?_cons_zero]; rfl) (by kernel_rfl) (by kernel_rfl) (by kernel_rfl) (by exact fun _ _ _ h => h) (Or.inr ⟨by rfl, rfl⟩) hHeld ?_
        try simp only [put_laws]
        refine wpAnyH_take (i := 27) (v := undef) (by simp only [List.getElem?_toArray, List.getElem?_cons_succ, List.getElem?_cons_zero]; rfl) (by kernel_rfl) (by kernel_rfl) (by kernel_rfl) (by exact fun _ _ _ h => h) (Or.inr ⟨by rfl, rfl⟩) hHeld ?_
        try simp only [put_laws]
        refine wpAnyH_take (i := 28) (v := undef) (by simp only [List.getElem?_toArray, List.getElem?_cons_succ, List.getElem?_cons_zero]; rfl) (by kernel_rfl) (by kernel_rfl) (by kernel_rfl) (by exact fun _ _ _ h => h) (Or.inr ⟨by rfl, rfl⟩) hHeld ?_
        try simp only [put_laws]
        refine wpAnyH_take (i := 29) (v := undef) (by simp only [List.getElem?_toArray, List.getElem?_cons_succ, List.getElem?_cons_zero]; rfl) (by kernel_rfl) (by kernel_rfl) (by kernel_rfl) (by exact fun _ _ _ h => h) (Or.inr ⟨by rfl, rfl⟩) hHeld ?_
        try simp only [put_laws]
        refine wpAnyH_take (i := 30) (v := undef) (by simp only [List.getElem?_toArray, List.getElem?_cons_succ, List.getElem?_cons_zero]; rfl) (by kernel_rfl) (by kernel_rfl) (by kernel_rfl) (by exact fun _ _ _ h => h) (Or.inr ⟨by rfl, rfl⟩) hHeld ?_
        try simp only [put_laws]
        refine wpAnyH_take (i := 31) (v := undef) (by simp only [List.getElem?_toArray, List.getElem?_cons_succ, List.getElem?_cons_zero]; rfl) (by kernel_rfl) (by kernel_rfl) (by kernel_rfl) (by exact fun _ _ _ h => h) (Or.inr ⟨by rfl, rfl⟩) hHeld ?_
        try simp only [put_laws]
        refine wpAnyH_take (i := 32) (v := undef) (by simp only [List.getElem?_toArray, List.getElem?_cons_succ, List.getElem?_cons_zero]; rfl) (by kernel_rfl) (by kernel_rfl) (by kernel_rfl) (by exact fun _ _ _ h => h) (Or.inr ⟨by rfl, rfl⟩) hHeld ?_
        try simp only [put_laws]
        refine wpAnyH_take (i := 33) (v := undef) (by simp only [List.getElem?_toArray, List.getElem?_cons_succ, List.getElem?_cons_zero]; rfl) (by kernel_rfl) (by kernel_rfl) (by kernel_rfl) (by exact fun _ _ _ h => h) (Or.inr ⟨by rfl, rfl⟩) hHeld ?_
        try simp only [put_laws]
        refine wpAnyH_take (i := 34) (v := ?vq1_34_35) (by simp only [List.getElem?_toArray, List.getElem?_cons_succ, List.getElem?_cons_zero]; rfl) (by kernel_rfl) (by kernel_rfl) (by kernel_rfl) (by exact fun _ _ _ h => h) (Or.inl ⟨by rfl, ?hq1_34_35⟩) hHeld ?rq1_34_35
        case hq1_34_35 => (intro w hSw; (try dsimp only at hSw); go_simp; (try with_reducible rfl))
        try simp only [put_laws]
        refine wpAnyH_take (i := 35) (v := ?vq1_35_36) (by simp only [List.getElem?_toArray, List.getElem?_cons_succ, List.getElem?_cons_zero]; rfl) (by kernel_rfl) (by kernel_rfl) (by kernel_rfl) (by exact fun _ _ _ h => h) (Or.inl ⟨by rfl, ?hq1_35_36⟩) hHeld ?rq1_35_36
        case hq1_35_36 => (intro w hSw; (try dsimp only at hSw); go_simp; (try with_reducible rfl))
        try simp only [put_laws]
        refine wpAnyH_done (by kernel_rfl) ?_ _
        clear hHeld
        go_wp2
        go_roundw
        case rel => exact ⟨j + 1, false, by omega, by go_num, rfl, Lib.hid (fun h => by cases h), hbd⟩
        case measure => simp [intOf]; omega
      have HG := Lib.hid (HGK.out rfl)
      by_cases h1 : 1 ≤ id
      rotate_left
      · have hd1 : decide (1 ≤ id) = false := by simpa using h1
        clear h1
        go_upto_region 14 with fail
        refine wp_region_held_drew (S := (fun w' => w'.cell? ⟨H, 0, none⟩ = some (.int .i64 W) ∧ w'.cell? ⟨H, 1, none⟩ = some (.int .i64 D) ∧ w'.cell? ⟨H, 2, none⟩ = some (.slice (some ⟨G, 0, none⟩) m d) ∧ w'.cell? ⟨I, j, none⟩ = some (.int .i64 id))) (by kernel_rfl) ?_ (fun hHeld => ?_)
        · (try dsimp only); first | exact ⟨m0, m1, m2, hc⟩ | exact ⟨(hH9.below hbF).cell 0, (hH9.below hbF).cell 1, (hH9.below hbF).cell 2, (hbF.cell (p := ⟨I, j, none⟩) hbI).trans hc⟩
        refine wpAnyH_take (i := 0) (v := ?vq2_0_1) (by simp only [List.getElem?_toArray, List.getElem?_cons_zero]; rfl) (by kernel_rfl) (by kernel_rfl) (by kernel_rfl) (by exact fun _ _ _ h => h) (Or.inl ⟨by rfl, ?hq2_0_1⟩) hHeld ?rq2_0_1
        case hq2_0_1 => (intro w hSw; (try dsimp only at hSw); go_simp; (try with_reducible rfl))
        try simp only [put_laws]
        refine wpAnyH_take (i := 1) (v := ?vq2_1_2) (by simp only [List.getElem?_toArray, List.getElem?_cons_succ, List.getElem?_cons_zero]; rfl) (by kernel_rfl) (by kernel_rfl) (by kernel_rfl) (by exact fun _ _ _ h => h) (Or.inl ⟨by rfl, ?hq2_1_2⟩) hHeld ?rq2_1_2
        case hq2_1_2 => (intro w hSw; (try dsimp only at hSw); go_simp; (try with_reducible rfl))
        try simp only [put_laws]
        refine wpAnyH_take (i := 2) (v := ?vq2_2_3) (by simp only [List.getElem?_toArray, List.getElem?_cons_succ, List.getElem?_cons_zero]; rfl) (by kernel_rfl) (by kernel_rfl) (by kernel_rfl) (by exact fun _ _ _ h => h) (Or.inl ⟨by rfl, ?hq2_2_3⟩) hHeld ?rq2_2_3
        case hq2_2_3 => (intro w hSw; (try dsimp only at hSw); go_simp; (try with_reducible rfl))
        try simp only [put_laws]
        refine wpAnyH_take (i := 3) (v := ?vq2_3_4) (by simp only [List.getElem?_toArray, List.getElem?_cons_succ, List.getElem?_cons_zero]; rfl) (by kernel_rfl) (by kernel_rfl) (by kernel_rfl) (by exact fun _ _ _ h => h) (Or.inl ⟨by rfl, ?hq2_3_4⟩) hHeld ?rq2_3_4
        case hq2_3_4 => (intro w hSw; (try dsimp only at hSw); go_simp; (try with_reducible rfl))
        try simp only [put_laws]
        refine wpAnyH_take (i := 4) (v := ?vq2_4_5) (by simp only [List.getElem?_toArray, List.getElem?_cons_succ, List.getElem?_cons_zero]; rfl) (by kernel_rfl) (by kernel_rfl) (by kernel_rfl) (by exact fun _ _ _ h => h) (Or.inl ⟨by rfl, ?hq2_4_5⟩) hHeld ?rq2_4_5
        case hq2_4_5 => (intro w hSw; (try dsimp only at hSw); go_simp; (try with_reducible rfl))
        try simp only [put_laws]
        refine wpAnyH_take (i := 5) (v := ?vq2_5_6) (by simp only [List.getElem?_toArray, List.getElem?_cons_succ, List.getElem?_cons_zero]; rfl) (by kernel_rfl) (by kernel_rfl) (by kernel_rfl) (by exact fun _ _ _ h => h) (Or.inl ⟨by rfl, ?hq2_5_6⟩) hHeld ?rq2_5_6
        case hq2_5_6 => (intro w hSw; (try dsimp only at hSw); go_simp; (try with_reducible rfl))
        try simp only [put_laws]
        refine wpAnyH_take (i := 6) (v := ?vq2_6_7) (by simp only [List.getElem?_toArray, List.getElem?_cons_succ, List.getElem?_cons_zero]; rfl) (by kernel_rfl) (by kernel_rfl) (by kernel_rfl) (by exact fun _ _ _ h => h) (Or.inl ⟨by rfl, ?hq2_6_7⟩) hHeld ?rq2_6_7
        case hq2_6_7 => (intro w hSw; (try dsimp only at hSw); go_simp; (try with_reducible rfl))
        try simp only [put_laws]
        refine wpAnyH_take (i := 7) (v := ?vq2_7_8) (by simp only [List.getElem?_toArray, List.getElem?_cons_succ, List.getElem?_cons_zero]; rfl) (by kernel_rfl) (by kernel_rfl) (by kernel_rfl) (by exact fun _ _ _ h => h) (Or.inl ⟨by rfl, ?hq2_7_8⟩) hHeld ?rq2_7_8
        case hq2_7_8 => (intro w hSw; (try dsimp only at hSw); go_simp; (try with_reducible rfl))
        try simp only [put_laws]
        refine wpAnyH_take (i := 8) (v := ?vq2_8_9) (by simp only [List.getElem?_toArray, List.getElem?_cons_succ, List.getElem?_cons_zero]; rfl) (by kernel_rfl) (by kernel_rfl) (by kernel_rfl) (by exact fun _ _ _ h => h) (Or.inl ⟨by rfl, ?hq2_8_9⟩) hHeld ?rq2_8_9
        case hq2_8_9 => (intro w hSw; (try dsimp only at hSw); go_simp; (try with_reducible rfl))
        try simp only [put_laws]
        refine wpAnyH_take (i := 9) (v := undef) (by simp only [List.getElem?_toArray, List.getElem?_cons_succ, List.getElem?_cons_zero]; rfl) (by kernel_rfl) (by kernel_rfl) (by kernel_rfl) (by exact fun _ _ _ h => h) (Or.inr ⟨by rfl, rfl⟩) hHeld ?_
        try simp only [put_laws]
        refine wpAnyH_take (i := 10) (v := undef) (by simp only [List.getElem?_toArray, List.getElem?_cons_succ, List.getElem?_cons_zero]; rfl) (by kernel_rfl) (by kernel_rfl) (by kernel_rfl) (by exact fun _ _ _ h => h) (Or.inr ⟨by rfl, rfl⟩) hHeld ?_
        try simp only [put_laws]
        refine wpAnyH_take (i := 11) (v := undef) (by simp only [List.getElem?_toArray, List.getElem?_cons_succ, List.getElem?_cons_zero]; rfl) (by kernel_rfl) (by kernel_rfl) (by kernel_rfl) (by exact fun _ _ _ h => h) (Or.inr ⟨by rfl, rfl⟩) hHeld ?_
        try simp only [put_laws]
        refine wpAnyH_take (i := 12) (v := undef) (by simp only [List.getElem?_toArray, List.getElem?_cons_succ, List.getElem?_cons_zero]; rfl) (by kernel_rfl) (by kernel_rfl) (by kernel_rfl) (by exact fun _ _ _ h => h) (Or.inr ⟨by rfl, rfl⟩) hHeld ?_
        try simp only [put_laws]
        refine wpAnyH_take (i := 13) (v := undef) (by simp only [List.getElem?_toArray, List.getElem?_cons_succ, List.getElem?_cons_zero]; rfl) (by kernel_rfl) (by kernel_rfl) (by kernel_rfl) (by exact fun _ _ _ h => h) (Or.inr ⟨by rfl, rfl⟩) hHeld ?_
        try simp only [put_laws]
        refine wpAnyH_take (i := 14) (v := ?vq2_14_15) (by simp only [List.getElem?_toArray, List.getElem?_cons_succ, List.getElem?_cons_zero]; rfl) (by kernel_rfl) (by kernel_rfl) (by kernel_rfl) (by exact fun _ _ _ h => h) (Or.inl ⟨by rfl, ?hq2_14_15⟩) hHeld ?rq2_14_15
        case hq2_14_15 => (intro w hSw; (try dsimp only at hSw); go_simp; (try with_reducible rfl))
        try simp only [put_laws]
        refine wpAnyH_take (i := 15) (v := ?vq2_15_16) (by simp only [List.getElem?_toArray, List.getElem?_cons_succ, List.getElem?_cons_zero]; rfl) (by kernel_rfl) (by kernel_rfl) (by kernel_rfl) (by exact fun _ _ _ h => h) (Or.inl ⟨by rfl, ?hq2_15_16⟩) hHeld ?rq2_15_16
        case hq2_15_16 => (intro w hSw; (try dsimp only at hSw); go_simp; (try with_reducible rfl))
        try simp only [put_laws]
        refine wpAnyH_take (i := 16) (v := undef) (by simp only [List.getElem?_toArray, List.getElem?_cons_succ, List.getElem?_cons_zero]; rfl) (by kernel_rfl) (by kernel_rfl) (by kernel_rfl) (by exact fun _ _ _ h => h) (Or.inr ⟨by rfl, rfl⟩) hHeld ?_
        try simp only [put_laws]
        refine wpAnyH_take (i := 17) (v := undef) (by simp only [List.getElem?_toArray, List.getElem?_cons_succ, List.getElem?_cons_zero]; rfl) (by kernel_rfl) (by kernel_rfl) (by kernel_rfl) (by exact fun _ _ _ h => h) (Or.inr ⟨by rfl, rfl⟩) hHeld ?_
        try simp only [put_laws]
        refine wpAnyH_take (i := 18) (v := undef) (by simp only [List.getElem?_toArray, List.getElem?_cons_succ, List.getElem?_cons_zero]; rfl) (by kernel_rfl) (by kernel_rfl) (by kernel_rfl) (by exact fun _ _ _ h => h) (Or.inr ⟨by rfl, rfl⟩) hHeld ?_
        try simp only [put_laws]
        refine wpAnyH_take (i := 19) (v := undef) (by simp only [List.getElem?_toArray, List.getElem?_cons_succ, List.getElem?_cons_zero]; rfl) (by kernel_rfl) (by kernel_rfl) (by kernel_rfl) (by exact fun _ _ _ h => h) (Or.inr ⟨by rfl, rfl⟩) hHeld ?_
        try simp only [put_laws]
        refine wpAnyH_take (i := 20) (v := undef) (by simp only [List.getElem?_toArray, List.getElem?_cons_succ, List.getElem?_cons_zero]; rfl) (by kernel_rfl) (by kernel_rfl) (by kernel_rfl) (by exact fun _ _ _ h => h) (Or.inr ⟨by rfl, rfl⟩) hHeld ?_
        try simp only [put_laws]
        refine wpAnyH_take (i := 21) (v := undef) (by simp only [List.getElem?_toArray, List.getElem?_cons_succ, List.getElem?_cons_zero]; rfl) (by kernel_rfl) (by kernel_rfl) (by kernel_rfl) (by exact fun _ _ _ h => h) (Or.inr ⟨by rfl, rfl⟩) hHeld ?_
        try simp only [put_laws]
        refine wpAnyH_take (i := 22) (v := undef) (by simp only [List.getElem?_toArray, List.getElem?_cons_succ, List.getElem?_cons_zero]; rfl) (by kernel_rfl) (by kernel_rfl) (by kernel_rfl) (by exact fun _ _ _ h => h) (Or.inr ⟨by rfl, rfl⟩) hHeld ?_
        try simp only [put_laws]
        refine wpAnyH_take (i := 23) (v := ?vq2_23_24) (by simp only [List.getElem?_toArray, List.getElem?_cons_succ, List.getElem?_cons_zero]; rfl) (by kernel_rfl) (by kernel_rfl) (by kernel_rfl) (by exact fun _ _ _ h => h) (Or.inl ⟨by rfl, ?hq2_23_24⟩) hHeld ?rq2_23_24
        case hq2_23_24 => (intro w hSw; (try dsimp only at hSw); go_simp; (try with_reducible rfl))
        try simp only [put_laws]
        refine wpAnyH_take (i := 24) (v := ?vq2_24_25) (by simp only [List.getElem?_toArray, List.getElem?_cons_succ, List.getElem?_cons_zero]; rfl) (by kernel_rfl) (by kernel_rfl) (by kernel_rfl) (by exact fun _ _ _ h => h) (Or.inl ⟨by rfl, ?hq2_24_25⟩) hHeld ?rq2_24_25
        case hq2_24_25 => (intro w hSw; (try dsimp only at hSw); go_simp; (try with_reducible rfl))
        try simp only [put_laws]
        refine wpAnyH_take (i := 25) (v := undef) (by simp only [List.getElem?_toArray, List.getElem?_cons_succ, List.getElem?_cons_zero]; rfl) (by kernel_rfl) (by kernel_rfl) (by kernel_rfl) (by exact fun _ _ _ h => h) (Or.inr ⟨by rfl, rfl⟩) hHeld ?_
        try simp only [put_laws]
        refine wpAnyH_take (i := 26) (v := undef) (by simp only [List.getElem?_toArray, List.getElem?_cons_succ, List.getElem?_cons_zero]; rfl) (by kernel_rfl) (by kernel_rfl) (by kernel_rfl) (by exact fun _ _ _ h => h) (Or.inr ⟨by rfl, rfl⟩) hHeld ?_
        try simp only [put_laws]
        refine wpAnyH_take (i := 27) (v := undef) (by simp only [List.getElem?_toArray, List.getElem?_cons_succ, List.getElem?_cons_zero]; rfl) (by kernel_rfl) (by kernel_rfl) (by kernel_rfl) (by exact fun _ _ _ h => h) (Or.inr ⟨by rfl, rfl⟩) hHeld ?_
        try simp only [put_laws]
        refine wpAnyH_take (i := 28) (v := undef) (by simp only [List.getElem?_toArray, List.getElem?_cons_succ, List.getElem?_cons_zero]; rfl) (by kernel_rfl) (by kernel_rfl) (by kernel_rfl) (by exact fun _ _ _ h => h) (Or.inr ⟨by rfl, rfl⟩) hHeld ?_
        try simp only [put_laws]
        refine wpAnyH_take (i := 29) (v := undef) (by simp only [List.getElem?_toArray, List.getElem?_cons_succ, List.getElem?_cons_zero]; rfl) (by kernel_rfl) (by kernel_rfl) (by kernel_rfl) (by exact fun _ _ _ h => h) (Or.inr ⟨by rfl, rfl⟩) hHeld ?_
        try simp only [put_laws]
        refine wpAnyH_take (i := 30) (v := undef) (by simp only [List.getElem?_toArray, List.getElem?_cons_succ, List.getElem?_cons_zero]; rfl) (by kernel_rfl) (by kernel_rfl) (by kernel_rfl) (by exact fun _ _ _ h => h) (Or.inr ⟨by rfl, rfl⟩) hHeld ?_
        try simp only [put_laws]
        refine wpAnyH_take (i := 31) (v := undef) (by simp only [List.getElem?_toArray, List.getElem?_cons_succ, List.getElem?_cons_zero]; rfl) (by kernel_rfl) (by kernel_rfl) (by kernel_rfl) (by exact fun _ _ _ h => h) (Or.inr ⟨by rfl, rfl⟩) hHeld ?_
        try simp only [put_laws]
        refine wpAnyH_take (i := 32) (v := undef) (by simp only [List.getElem?_toArray, List.getElem?_cons_succ, List.getElem?_cons_zero]; rfl) (by kernel_rfl) (by kernel_rfl) (by kernel_rfl) (by exact fun _ _ _ h => h) (Or.inr ⟨by rfl, rfl⟩) hHeld ?_
        try simp only [put_laws]
        refine wpAnyH_take (i := 33) (v := undef) (by simp only [List.getElem?_toArray, List.getElem?_cons_succ, List.getElem?_cons_zero]; rfl) (by kernel_rfl) (by kernel_rfl) (by kernel_rfl) (by exact fun _ _ _ h => h) (Or.inr ⟨by rfl, rfl⟩) hHeld ?_
        try simp only [put_laws]
        refine wpAnyH_take (i := 34) (v := ?vq2_34_35) (by simp only [List.getElem?_toArray, List.getElem?_cons_succ, List.getElem?_cons_zero]; rfl) (by kernel_rfl) (by kernel_rfl) (by kernel_rfl) (by exact fun _ _ _ h => h) (Or.inl ⟨by rfl, ?hq2_34_35⟩) hHeld ?rq2_34_35
        case hq2_34_35 => (intro w hSw; (try dsimp only at hSw); go_simp; (try with_reducible rfl))
        try simp only [put_laws]
        refine wpAnyH_take (i := 35) (v := ?vq2_35_36) (by simp only [List.getElem?_toArray, List.getElem?_cons_succ, List.getElem?_cons_zero]; rfl) (by kernel_rfl) (by kernel_rfl) (by kernel_rfl) (by exact fun _ _ _ h => h) (Or.inl ⟨by rfl, ?hq2_35_36⟩) hHeld ?rq2_35_36
        case hq2_35_36 => (intro w hSw; (try dsimp only at hSw); go_simp; (try with_reducible rfl))
        try simp only [put_laws]
        refine wpAnyH_done (by kernel_rfl) ?_ _
        clear hHeld
        go_wp2
        go_roundw
        case rel => exact ⟨j + 1, false, by omega, by go_num, rfl, Lib.hid (fun h => by cases h), hbd⟩
        case measure => simp [intOf]; omega
      have hd1 : decide (1 ≤ id) = true := by simpa using h1
      by_cases h2 : id ≤ 99
      rotate_left
      · have hd2 : decide (id ≤ 99) = false := by simpa using h2
        clear h2
        go_upto_region 14 with fail
        refine wp_region_held_drew (S := (fun w' => w'.cell? ⟨H, 0, none⟩ = some (.int .i64 W) ∧ w'.cell? ⟨H, 1, none⟩ = some (.int .i64 D) ∧ w'.cell? ⟨H, 2, none⟩ = some (.slice (some ⟨G, 0, none⟩) m d) ∧ w'.cell? ⟨I, j, none⟩ = some (.int .i64 id))) (by kernel_rfl) ?_ (fun hHeld => ?_)
        · (try dsimp only); first | exact ⟨m0, m1, m2, hc⟩ | exact ⟨(hH9.below hbF).cell 0, (hH9.below hbF).cell 1, (hH9.below hbF).cell 2, (hbF.cell (p := ⟨I, j, none⟩) hbI).trans hc⟩
        refine wpAnyH_take (i := 0) (v := ?vq3_0_1) (by simp only [List.getElem?_toArray, List.getElem?_cons_zero]; rfl) (by kernel_rfl) (by kernel_rfl) (by kernel_rfl) (by exact fun _ _ _ h => h) (Or.inl ⟨by rfl, ?hq3_0_1⟩) hHeld ?rq3_0_1
        case hq3_0_1 => (intro w hSw; (try dsimp only at hSw); go_simp; (try with_reducible rfl))
        try simp only [put_laws]
        refine wpAnyH_take (i := 1) (v := ?vq3_1_2) (by simp only [List.getElem?_toArray, List.getElem?_cons_succ, List.getElem?_cons_zero]; rfl) (by kernel_rfl) (by kernel_rfl) (by kernel_rfl) (by exact fun _ _ _ h => h) (Or.inl ⟨by rfl, ?hq3_1_2⟩) hHeld ?rq3_1_2
        case hq3_1_2 => (intro w hSw; (try dsimp only at hSw); go_simp; (try with_reducible rfl))
        try simp only [put_laws]
        refine wpAnyH_take (i := 2) (v := ?vq3_2_3) (by simp only [List.getElem?_toArray, List.getElem?_cons_succ, List.getElem?_cons_zero]; rfl) (by kernel_rfl) (by kernel_rfl) (by kernel_rfl) (by exact fun _ _ _ h => h) (Or.inl ⟨by rfl, ?hq3_2_3⟩) hHeld ?rq3_2_3
        case hq3_2_3 => (intro w hSw; (try dsimp only at hSw); go_simp; (try with_reducible rfl))
        try simp only [put_laws]
        refine wpAnyH_take (i := 3) (v := ?vq3_3_4) (by simp only [List.getElem?_toArray, List.getElem?_cons_succ, List.getElem?_cons_zero]; rfl) (by kernel_rfl) (by kernel_rfl) (by kernel_rfl) (by exact fun _ _ _ h => h) (Or.inl ⟨by rfl, ?hq3_3_4⟩) hHeld ?rq3_3_4
        case hq3_3_4 => (intro w hSw; (try dsimp only at hSw); go_simp; (try with_reducible rfl))
        try simp only [put_laws]
        refine wpAnyH_take (i := 4) (v := ?vq3_4_5) (by simp only [List.getElem?_toArray, List.getElem?_cons_succ, List.getElem?_cons_zero]; rfl) (by kernel_rfl) (by kernel_rfl) (by kernel_rfl) (by exact fun _ _ _ h => h) (Or.inl ⟨by rfl, ?hq3_4_5⟩) hHeld ?rq3_4_5
        case hq3_4_5 => (intro w hSw; (try dsimp only at hSw); go_simp; (try with_reducible rfl))
        try simp only [put_laws]
        refine wpAnyH_take (i := 5) (v := ?vq3_5_6) (by simp only [List.getElem?_toArray, List.getElem?_cons_succ, List.getElem?_cons_zero]; rfl) (by kernel_rfl) (by kernel_rfl) (by kernel_rfl) (by exact fun _ _ _ h => h) (Or.inl ⟨by rfl, ?hq3_5_6⟩) hHeld ?rq3_5_6
        case hq3_5_6 => (intro w hSw; (try dsimp only at hSw); go_simp; (try with_reducible rfl))
        try simp only [put_laws]
        refine wpAnyH_take (i := 6) (v := ?vq3_6_7) (by simp only [List.getElem?_toArray, List.getElem?_cons_succ, List.getElem?_cons_zero]; rfl) (by kernel_rfl) (by kernel_rfl) (by kernel_rfl) (by exact fun _ _ _ h => h) (Or.inl ⟨by rfl, ?hq3_6_7⟩) hHeld ?rq3_6_7
        case hq3_6_7 => (intro w hSw; (try dsimp only at hSw); go_simp; (try with_reducible rfl))
        try simp only [put_laws]
        refine wpAnyH_take (i := 7) (v := ?vq3_7_8) (by simp only [List.getElem?_toArray, List.getElem?_cons_succ, List.getElem?_cons_zero]; rfl) (by kernel_rfl) (by kernel_rfl) (by kernel_rfl) (by exact fun _ _ _ h => h) (Or.inl ⟨by rfl, ?hq3_7_8⟩) hHeld ?rq3_7_8
        case hq3_7_8 => (intro w hSw; (try dsimp only at hSw); go_simp; (try with_reducible rfl))
        try simp only [put_laws]
        refine wpAnyH_take (i := 8) (v := ?vq3_8_9) (by simp only [List.getElem?_toArray, List.getElem?_cons_succ, List.getElem?_cons_zero]; rfl) (by kernel_rfl) (by kernel_rfl) (by kernel_rfl) (by exact fun _ _ _ h => h) (Or.inl ⟨by rfl, ?hq3_8_9⟩) hHeld ?rq3_8_9
        case hq3_8_9 => (intro w hSw; (try dsimp only at hSw); go_simp; (try with_reducible rfl))
        try simp only [put_laws]
        refine wpAnyH_take (i := 9) (v := ?vq3_9_10) (by simp only [List.getElem?_toArray, List.getElem?_cons_succ, List.getElem?_cons_zero]; rfl) (by kernel_rfl) (by kernel_rfl) (by kernel_rfl) (by exact fun _ _ _ h => h) (Or.inl ⟨by rfl, ?hq3_9_10⟩) hHeld ?rq3_9_10
        case hq3_9_10 => (intro w hSw; (try dsimp only at hSw); go_simp; (try with_reducible rfl))
        try simp only [put_laws]
        refine wpAnyH_take (i := 10) (v := ?vq3_10_11) (by simp only [List.getElem?_toArray, List.getElem?_cons_succ, List.getElem?_cons_zero]; rfl) (by kernel_rfl) (by kernel_rfl) (by kernel_rfl) (by exact fun _ _ _ h => h) (Or.inl ⟨by rfl, ?hq3_10_11⟩) hHeld ?rq3_10_11
        case hq3_10_11 => (intro w hSw; (try dsimp only at hSw); go_simp; (try with_reducible rfl))
        try simp only [put_laws]
        refine wpAnyH_take (i := 11) (v := ?vq3_11_12) (by simp only [List.getElem?_toArray, List.getElem?_cons_succ, List.getElem?_cons_zero]; rfl) (by kernel_rfl) (by kernel_rfl) (by kernel_rfl) (by exact fun _ _ _ h => h) (Or.inl ⟨by rfl, ?hq3_11_12⟩) hHeld ?rq3_11_12
        case hq3_11_12 => (intro w hSw; (try dsimp only at hSw); go_simp; (try with_reducible rfl))
        try simp only [put_laws]
        refine wpAnyH_take (i := 12) (v := ?vq3_12_13) (by simp only [List.getElem?_toArray, List.getElem?_cons_succ, List.getElem?_cons_zero]; rfl) (by kernel_rfl) (by kernel_rfl) (by kernel_rfl) (by exact fun _ _ _ h => h) (Or.inl ⟨by rfl, ?hq3_12_13⟩) hHeld ?rq3_12_13
        case hq3_12_13 => (intro w hSw; (try dsimp only at hSw); go_simp; (try with_reducible rfl))
        try simp only [put_laws]
        refine wpAnyH_take (i := 13) (v := ?vq3_13_14) (by simp only [List.getElem?_toArray, List.getElem?_cons_succ, List.getElem?_cons_zero]; rfl) (by kernel_rfl) (by kernel_rfl) (by kernel_rfl) (by exact fun _ _ _ h => h) (Or.inl ⟨by rfl, ?hq3_13_14⟩) hHeld ?rq3_13_14
        case hq3_13_14 => (intro w hSw; (try dsimp only at hSw); go_simp; (try with_reducible rfl))
        try simp only [put_laws]
        refine wpAnyH_take (i := 14) (v := ?vq3_14_15) (by simp only [List.getElem?_toArray, List.getElem?_cons_succ, List.getElem?_cons_zero]; rfl) (by kernel_rfl) (by kernel_rfl) (by kernel_rfl) (by exact fun _ _ _ h => h) (Or.inl ⟨by rfl, ?hq3_14_15⟩) hHeld ?rq3_14_15
        case hq3_14_15 => (intro w hSw; (try dsimp only at hSw); go_simp; (try with_reducible rfl))
        try simp only [put_laws]
        refine wpAnyH_take (i := 15) (v := ?vq3_15_16) (by simp only [List.getElem?_toArray, List.getElem?_cons_succ, List.getElem?_cons_zero]; rfl) (by kernel_rfl) (by kernel_rfl) (by kernel_rfl) (by exact fun _ _ _ h => h) (Or.inl ⟨by rfl, ?hq3_15_16⟩) hHeld ?rq3_15_16
        case hq3_15_16 => (intro w hSw; (try dsimp only at hSw); go_simp; (try with_reducible rfl))
        try simp only [put_laws]
        refine wpAnyH_take (i := 16) (v := undef) (by simp only [List.getElem?_toArray, List.getElem?_cons_succ, List.getElem?_cons_zero]; rfl) (by kernel_rfl) (by kernel_rfl) (by kernel_rfl) (by exact fun _ _ _ h => h) (Or.inr ⟨by rfl, rfl⟩) hHeld ?_
        try simp only [put_laws]
        refine wpAnyH_take (i := 17) (v := undef) (by simp only [List.getElem?_toArray, List.getElem?_cons_succ, List.getElem?_cons_zero]; rfl) (by kernel_rfl) (by kernel_rfl) (by kernel_rfl) (by exact fun _ _ _ h => h) (Or.inr ⟨by rfl, rfl⟩) hHeld ?_
        try simp only [put_laws]
        refine wpAnyH_take (i := 18) (v := undef) (by simp only [List.getElem?_toArray, List.getElem?_cons_succ, List.getElem?_cons_zero]; rfl) (by kernel_rfl) (by kernel_rfl) (by kernel_rfl) (by exact fun _ _ _ h => h) (Or.inr ⟨by rfl, rfl⟩) hHeld ?_
        try simp only [put_laws]
        refine wpAnyH_take (i := 19) (v := undef) (by simp only [List.getElem?_toArray, List.getElem?_cons_succ, List.getElem?_cons_zero]; rfl) (by kernel_rfl) (by kernel_rfl) (by kernel_rfl) (by exact fun _ _ _ h => h) (Or.inr ⟨by rfl, rfl⟩) hHeld ?_
        try simp only [put_laws]
        refine wpAnyH_take (i := 20) (v := undef) (by simp only [List.getElem?_toArray, List.getElem?_cons_succ, List.getElem?_cons_zero]; rfl) (by kernel_rfl) (by kernel_rfl) (by kernel_rfl) (by exact fun _ _ _ h => h) (Or.inr ⟨by rfl, rfl⟩) hHeld ?_
        try simp only [put_laws]
        refine wpAnyH_take (i := 21) (v := undef) (by simp only [List.getElem?_toArray, List.getElem?_cons_succ, List.getElem?_cons_zero]; rfl) (by kernel_rfl) (by kernel_rfl) (by kernel_rfl) (by exact fun _ _ _ h => h) (Or.inr ⟨by rfl, rfl⟩) hHeld ?_
        try simp only [put_laws]
        refine wpAnyH_take (i := 22) (v := undef) (by simp only [List.getElem?_toArray, List.getElem?_cons_succ, List.getElem?_cons_zero]; rfl) (by kernel_rfl) (by kernel_rfl) (by kernel_rfl) (by exact fun _ _ _ h => h) (Or.inr ⟨by rfl, rfl⟩) hHeld ?_
        try simp only [put_laws]
        refine wpAnyH_take (i := 23) (v := ?vq3_23_24) (by simp only [List.getElem?_toArray, List.getElem?_cons_succ, List.getElem?_cons_zero]; rfl) (by kernel_rfl) (by kernel_rfl) (by kernel_rfl) (by exact fun _ _ _ h => h) (Or.inl ⟨by rfl, ?hq3_23_24⟩) hHeld ?rq3_23_24
        case hq3_23_24 => (intro w hSw; (try dsimp only at hSw); go_simp; (try with_reducible rfl))
        try simp only [put_laws]
        refine wpAnyH_take (i := 24) (v := ?vq3_24_25) (by simp only [List.getElem?_toArray, List.getElem?_cons_succ, List.getElem?_cons_zero]; rfl) (by kernel_rfl) (by kernel_rfl) (by kernel_rfl) (by exact fun _ _ _ h => h) (Or.inl ⟨by rfl, ?hq3_24_25⟩) hHeld ?rq3_24_25
        case hq3_24_25 => (intro w hSw; (try dsimp only at hSw); go_simp; (try with_reducible rfl))
        try simp only [put_laws]
        refine wpAnyH_take (i := 25) (v := undef) (by simp only [List.getElem?_toArray, List.getElem?_cons_succ, List.getElem?_cons_zero]; rfl) (by kernel_rfl) (by kernel_rfl) (by kernel_rfl) (by exact fun _ _ _ h => h) (Or.inr ⟨by rfl, rfl⟩) hHeld ?_
        try simp only [put_laws]
        refine wpAnyH_take (i := 26) (v := undef) (by simp only [List.getElem?_toArray, List.getElem?_cons_succ, List.getElem?_cons_zero]; rfl) (by kernel_rfl) (by kernel_rfl) (by kernel_rfl) (by exact fun _ _ _ h => h) (Or.inr ⟨by rfl, rfl⟩) hHeld ?_
        try simp only [put_laws]
        refine wpAnyH_take (i := 27) (v := undef) (by simp only [List.getElem?_toArray, List.getElem?_cons_succ, List.getElem?_cons_zero]; rfl) (by kernel_rfl) (by kernel_rfl) (by kernel_rfl) (by exact fun _ _ _ h => h) (Or.inr ⟨by rfl, rfl⟩) hHeld ?_
        try simp only [put_laws]
        refine wpAnyH_take (i := 28) (v := undef) (by simp only [List.getElem?_toArray, List.getElem?_cons_succ, List.getElem?_cons_zero]; rfl) (by kernel_rfl) (by kernel_rfl) (by kernel_rfl) (by exact fun _ _ _ h => h) (Or.inr ⟨by rfl, rfl⟩) hHeld ?_
        try simp only [put_laws]
        refine wpAnyH_take (i := 29) (v := undef) (by simp only [List.getElem?_toArray, List.getElem?_cons_succ, List.getElem?_cons_zero]; rfl) (by kernel_rfl) (by kernel_rfl) (by kernel_rfl) (by exact fun _ _ _ h => h) (Or.inr ⟨by rfl, rfl⟩) hHeld ?_
        try simp only [put_laws]
        refine wpAnyH_take (i := 30) (v := undef) (by simp only [List.getElem?_toArray, List.getElem?_cons_succ, List.getElem?_cons_zero]; rfl) (by kernel_rfl) (by kernel_rfl) (by kernel_rfl) (by exact fun _ _ _ h => h) (Or.inr ⟨by rfl, rfl⟩) hHeld ?_
        try simp only [put_laws]
        refine wpAnyH_take (i := 31) (v := undef) (by simp only [List.getElem?_toArray, List.getElem?_cons_succ, List.getElem?_cons_zero]; rfl) (by kernel_rfl) (by kernel_rfl) (by kernel_rfl) (by exact fun _ _ _ h => h) (Or.inr ⟨by rfl, rfl⟩) hHeld ?_
        try simp only [put_laws]
        refine wpAnyH_take (i := 32) (v := undef) (by simp only [List.getElem?_toArray, List.getElem?_cons_succ, List.getElem?_cons_zero]; rfl) (by kernel_rfl) (by kernel_rfl) (by kernel_rfl) (by exact fun _ _ _ h => h) (Or.inr ⟨by rfl, rfl⟩) hHeld ?_
        try simp only [put_laws]
        refine wpAnyH_take (i := 33) (v := undef) (by simp only [List.getElem?_toArray, List.getElem?_cons_succ, List.getElem?_cons_zero]; rfl) (by kernel_rfl) (by kernel_rfl) (by kernel_rfl) (by exact fun _ _ _ h => h) (Or.inr ⟨by rfl, rfl⟩) hHeld ?_
        try simp only [put_laws]
        refine wpAnyH_take (i := 34) (v := ?vq3_34_35) (by simp only [List.getElem?_toArray, List.getElem?_cons_succ, List.getElem?_cons_zero]; rfl) (by kernel_rfl) (by kernel_rfl) (by kernel_rfl) (by exact fun _ _ _ h => h) (Or.inl ⟨by rfl, ?hq3_34_35⟩) hHeld ?rq3_34_35
        case hq3_34_35 => (intro w hSw; (try dsimp only at hSw); go_simp; (try with_reducible rfl))
        try simp only [put_laws]
        refine wpAnyH_take (i := 35) (v := ?vq3_35_36) (by simp only [List.getElem?_toArray, List.getElem?_cons_succ, List.getElem?_cons_zero]; rfl) (by kernel_rfl) (by kernel_rfl) (by kernel_rfl) (by exact fun _ _ _ h => h) (Or.inl ⟨by rfl, ?hq3_35_36⟩) hHeld ?rq3_35_36
        case hq3_35_36 => (intro w hSw; (try dsimp only at hSw); go_simp; (try with_reducible rfl))
        try simp only [put_laws]
        refine wpAnyH_done (by kernel_rfl) ?_ _
        clear hHeld
        go_wp2
        go_roundw
        case rel => exact ⟨j + 1, false, by omega, by go_num, rfl, Lib.hid (fun h => by cases h), hbd⟩
        case measure => simp [intOf]; omega
      have hd2 : decide (id ≤ 99) = true := by simpa using h2
      obtain ⟨r, hr⟩ : ∃ r, Hid (Lib.idxOf g id = r) := ⟨_, rfl⟩
      by_cases h3 : r < 0
      rotate_left
      · have hd3 : decide (r < 0) = false := by simpa using h3
        clear h3
        go_upto_region 14 with fail
        refine wp_region_held_drew (S := (fun w' => w'.cell? ⟨H, 0, none⟩ = some (.int .i64 W) ∧ w'.cell? ⟨H, 1, none⟩ = some (.int .i64 D) ∧ w'.cell? ⟨H, 2, none⟩ = some (.slice (some ⟨G, 0, none⟩) m d) ∧ w'.cell? ⟨I, j, none⟩ = some (.int .i64 id))) (by kernel_rfl) ?_ (fun hHeld => ?_)
        · (try dsimp only); first | exact ⟨m0, m1, m2, hc⟩ | exact ⟨(hH9.below hbF).cell 0, (hH9.below hbF).cell 1, (hH9.below hbF).cell 2, (hbF.cell (p := ⟨I, j, none⟩) hbI).trans hc⟩
        refine wpAnyH_take (i := 0) (v := ?vq4_0_1) (by simp only [List.getElem?_toArray, List.getElem?_cons_zero]; rfl) (by kernel_rfl) (by kernel_rfl) (by kernel_rfl) (by exact fun _ _ _ h => h) (Or.inl ⟨by rfl, ?hq4_0_1⟩) hHeld ?rq4_0_1
        case hq4_0_1 => (intro w hSw; (try dsimp only at hSw); go_simp; (try with_reducible rfl))
        try simp only [put_laws]
        refine wpAnyH_take (i := 1) (v := ?vq4_1_2) (by simp only [List.getElem?_toArray, List.getElem?_cons_succ, List.getElem?_cons_zero]; rfl) (by kernel_rfl) (by kernel_rfl) (by kernel_rfl) (by exact fun _ _ _ h => h) (Or.inl ⟨by rfl, ?hq4_1_2⟩) hHeld ?rq4_1_2
        case hq4_1_2 => (intro w hSw; (try dsimp only at hSw); go_simp; (try with_reducible rfl))
        try simp only [put_laws]
        refine wpAnyH_take (i := 2) (v := ?vq4_2_3) (by simp only [List.getElem?_toArray, List.getElem?_cons_succ, List.getElem?_cons_zero]; rfl) (by kernel_rfl) (by kernel_rfl) (by kernel_rfl) (by exact fun _ _ _ h => h) (Or.inl ⟨by rfl, ?hq4_2_3⟩) hHeld ?rq4_2_3
        case hq4_2_3 => (intro w hSw; (try dsimp only at hSw); go_simp; (try with_reducible rfl))
        try simp only [put_laws]
        refine wpAnyH_take (i := 3) (v := ?vq4_3_4) (by simp only [List.getElem?_toArray, List.getElem?_cons_succ, List.getElem?_cons_zero]; rfl) (by kernel_rfl) (by kernel_rfl) (by kernel_rfl) (by exact fun _ _ _ h => h) (Or.inl ⟨by rfl, ?hq4_3_4⟩) hHeld ?rq4_3_4
        case hq4_3_4 => (intro w hSw; (try dsimp only at hSw); go_simp; (try with_reducible rfl))
        try simp only [put_laws]
        refine wpAnyH_take (i := 4) (v := ?vq4_4_5) (by simp only [List.getElem?_toArray, List.getElem?_cons_succ, List.getElem?_cons_zero]; rfl) (by kernel_rfl) (by kernel_rfl) (by kernel_rfl) (by exact fun _ _ _ h => h) (Or.inl ⟨by rfl, ?hq4_4_5⟩) hHeld ?rq4_4_5
        case hq4_4_5 => (intro w hSw; (try dsimp only at hSw); go_simp; (try with_reducible rfl))
        try simp only [put_laws]
        refine wpAnyH_take (i := 5) (v := ?vq4_5_6) (by simp only [List.getElem?_toArray, List.getElem?_cons_succ, List.getElem?_cons_zero]; rfl) (by kernel_rfl) (by kernel_rfl) (by kernel_rfl) (by exact fun _ _ _ h => h) (Or.inl ⟨by rfl, ?hq4_5_6⟩) hHeld ?rq4_5_6
        case hq4_5_6 => (intro w hSw; (try dsimp only at hSw); go_simp; (try with_reducible rfl))
        try simp only [put_laws]
        refine wpAnyH_take (i := 6) (v := ?vq4_6_7) (by simp only [List.getElem?_toArray, List.getElem?_cons_succ, List.getElem?_cons_zero]; rfl) (by kernel_rfl) (by kernel_rfl) (by kernel_rfl) (by exact fun _ _ _ h => h) (Or.inl ⟨by rfl, ?hq4_6_7⟩) hHeld ?rq4_6_7
        case hq4_6_7 => (intro w hSw; (try dsimp only at hSw); go_simp; (try with_reducible rfl))
        try simp only [put_laws]
        refine wpAnyH_take (i := 7) (v := ?vq4_7_8) (by simp only [List.getElem?_toArray, List.getElem?_cons_succ, List.getElem?_cons_zero]; rfl) (by kernel_rfl) (by kernel_rfl) (by kernel_rfl) (by exact fun _ _ _ h => h) (Or.inl ⟨by rfl, ?hq4_7_8⟩) hHeld ?rq4_7_8
        case hq4_7_8 => (intro w hSw; (try dsimp only at hSw); go_simp; (try with_reducible rfl))
        try simp only [put_laws]
        refine wpAnyH_take (i := 8) (v := ?vq4_8_9) (by simp only [List.getElem?_toArray, List.getElem?_cons_succ, List.getElem?_cons_zero]; rfl) (by kernel_rfl) (by kernel_rfl) (by kernel_rfl) (by exact fun _ _ _ h => h) (Or.inl ⟨by rfl, ?hq4_8_9⟩) hHeld ?rq4_8_9
        case hq4_8_9 => (intro w hSw; (try dsimp only at hSw); go_simp; (try with_reducible rfl))
        try simp only [put_laws]
        refine wpAnyH_take (i := 9) (v := ?vq4_9_10) (by simp only [List.getElem?_toArray, List.getElem?_cons_succ, List.getElem?_cons_zero]; rfl) (by kernel_rfl) (by kernel_rfl) (by kernel_rfl) (by exact fun _ _ _ h => h) (Or.inl ⟨by rfl, ?hq4_9_10⟩) hHeld ?rq4_9_10
        case hq4_9_10 => (intro w hSw; (try dsimp only at hSw); go_simp; (try with_reducible rfl))
        try simp only [put_laws]
        refine wpAnyH_take (i := 10) (v := ?vq4_10_11) (by simp only [List.getElem?_toArray, List.getElem?_cons_succ, List.getElem?_cons_zero]; rfl) (by kernel_rfl) (by kernel_rfl) (by kernel_rfl) (by exact fun _ _ _ h => h) (Or.inl ⟨by rfl, ?hq4_10_11⟩) hHeld ?rq4_10_11
        case hq4_10_11 => (intro w hSw; (try dsimp only at hSw); go_simp; (try with_reducible rfl))
        try simp only [put_laws]
        refine wpAnyH_take (i := 11) (v := ?vq4_11_12) (by simp only [List.getElem?_toArray, List.getElem?_cons_succ, List.getElem?_cons_zero]; rfl) (by kernel_rfl) (by kernel_rfl) (by kernel_rfl) (by exact fun _ _ _ h => h) (Or.inl ⟨by rfl, ?hq4_11_12⟩) hHeld ?rq4_11_12
        case hq4_11_12 => (intro w hSw; (try dsimp only at hSw); go_simp; (try with_reducible rfl))
        try simp only [put_laws]
        refine wpAnyH_take (i := 12) (v := ?vq4_12_13) (by simp only [List.getElem?_toArray, List.getElem?_cons_succ, List.getElem?_cons_zero]; rfl) (by kernel_rfl) (by kernel_rfl) (by kernel_rfl) (by exact fun _ _ _ h => h) (Or.inl ⟨by rfl, ?hq4_12_13⟩) hHeld ?rq4_12_13
        case hq4_12_13 => (intro w hSw; (try dsimp only at hSw); go_simp; (try with_reducible rfl))
        try simp only [put_laws]
        refine wpAnyH_take (i := 13) (v := ?vq4_13_14) (by simp only [List.getElem?_toArray, List.getElem?_cons_succ, List.getElem?_cons_zero]; rfl) (by kernel_rfl) (by kernel_rfl) (by kernel_rfl) (by exact fun _ _ _ h => h) (Or.inl ⟨by rfl, ?hq4_13_14⟩) hHeld ?rq4_13_14
        case hq4_13_14 => (intro w hSw; (try dsimp only at hSw); go_simp; (try with_reducible rfl))
        try simp only [put_laws]
        refine wpAnyH_take (i := 14) (v := ?vq4_14_15) (by simp only [List.getElem?_toArray, List.getElem?_cons_succ, List.getElem?_cons_zero]; rfl) (by kernel_rfl) (by kernel_rfl) (by kernel_rfl) (by exact fun _ _ _ h => h) (Or.inl ⟨by rfl, ?hq4_14_15⟩) hHeld ?rq4_14_15
        case hq4_14_15 => (intro w hSw; (try dsimp only at hSw); go_simp; (try with_reducible rfl))
        try simp only [put_laws]
        refine wpAnyH_take (i := 15) (v := ?vq4_15_16) (by simp only [List.getElem?_toArray, List.getElem?_cons_succ, List.getElem?_cons_zero]; rfl) (by kernel_rfl) (by kernel_rfl) (by kernel_rfl) (by exact fun _ _ _ h => h) (Or.inl ⟨by rfl, ?hq4_15_16⟩) hHeld ?rq4_15_16
        case hq4_15_16 => (intro w hSw; (try dsimp only at hSw); go_simp; (try with_reducible rfl))
        try simp only [put_laws]
        refine wpAnyH_take (i := 16) (v := ?vq4_16_17) (by simp only [List.getElem?_toArray, List.getElem?_cons_succ, List.getElem?_cons_zero]; rfl) (by kernel_rfl) (by kernel_rfl) (by kernel_rfl) (by exact fun _ _ _ h => h) (Or.inl ⟨by rfl, ?hq4_16_17⟩) hHeld ?rq4_16_17
        case hq4_16_17 => (intro w hSw; (try dsimp only at hSw); go_simp; (try with_reducible rfl))
        try simp only [put_laws]
        refine wpAnyH_take (i := 17) (v := ?vq4_17_18) (by simp only [List.getElem?_toArray, List.getElem?_cons_succ, List.getElem?_cons_zero]; rfl) (by kernel_rfl) (by kernel_rfl) (by kernel_rfl) (by exact fun _ _ _ h => h) (Or.inl ⟨by rfl, ?hq4_17_18⟩) hHeld ?rq4_17_18
        case hq4_17_18 => (intro w hSw; (try dsimp only at hSw); go_simp; (try with_reducible rfl))
        try simp only [put_laws]
        refine wpAnyH_take (i := 18) (v := ?vq4_18_19) (by simp only [List.getElem?_toArray, List.getElem?_cons_succ, List.getElem?_cons_zero]; rfl) (by kernel_rfl) (by kernel_rfl) (by kernel_rfl) (by exact fun _ _ _ h => h) (Or.inl ⟨by rfl, ?hq4_18_19⟩) hHeld ?rq4_18_19
        case hq4_18_19 => (intro w hSw; (try dsimp only at hSw); go_simp; (try with_reducible rfl))
        try simp only [put_laws]
        refine wpAnyH_take (i := 19) (v := ?vq4_19_20) (by simp only [List.getElem?_toArray, List.getElem?_cons_succ, List.getElem?_cons_zero]; rfl) (by kernel_rfl) (by kernel_rfl) (by kernel_rfl) (by exact fun _ _ _ h => h) (Or.inl ⟨by rfl, ?hq4_19_20⟩) hHeld ?rq4_19_20
        case hq4_19_20 => (intro w hSw; (try dsimp only at hSw); go_simp; (try with_reducible rfl))
        try simp only [put_laws]
        refine wpAnyH_take (i := 20) (v := ?vq4_20_21) (by simp only [List.getElem?_toArray, List.getElem?_cons_succ, List.getElem?_cons_zero]; rfl) (by kernel_rfl) (by kernel_rfl) (by kernel_rfl) (by exact fun _ _ _ h => h) (Or.inl ⟨by rfl, ?hq4_20_21⟩) hHeld ?rq4_20_21
        case hq4_20_21 => (intro w hSw; (try dsimp only at hSw); go_simp; (try with_reducible rfl))
        try simp only [put_laws]
        refine wpAnyH_ready (rs := [21]) (by kernel_rfl) (by simp) ?_
        refine AllReadyH.cons (by simp only [List.getElem?_toArray, List.getElem?_cons_succ, List.getElem?_cons_zero]; rfl) (fun K hK => ?_) AllReadyH.nil
        go_simp
        refine (hallFind_any W D m (some ⟨G, 0, none⟩) d g id _ (hA9.out.below (Below.refl _ _).drew) h1).mono ?_; rintro e wf ⟨rfl, hb0⟩; rw [hr.out]; have hbF : Below w9.heap.size w9 wf := (Below.refl _ _).drew.trans hb0; clear hb0
        refine hK.out _ _ ?_ (fun hHeld => ?_)
        · (try dsimp only); first | exact ⟨m0, m1, m2, hc⟩ | exact ⟨(hH9.below hbF).cell 0, (hH9.below hbF).cell 1, (hH9.below hbF).cell 2, (hbF.cell (p := ⟨I, j, none⟩) hbI).trans hc⟩
        clear hK K
        try simp only [put_laws]
        refine wpAnyH_take (i := 22) (v := ?vq4_22_23) (by simp only [List.getElem?_toArray, List.getElem?_cons_succ, List.getElem?_cons_zero]; rfl) (by kernel_rfl) (by kernel_rfl) (by kernel_rfl) (by exact fun _ _ _ h => h) (Or.inl ⟨by rfl, ?hq4_22_23⟩) hHeld ?rq4_22_23
        case hq4_22_23 => (intro w hSw; (try dsimp only at hSw); go_simp; (try with_reducible rfl))
        try simp only [put_laws]
        refine wpAnyH_take (i := 23) (v := ?vq4_23_24) (by simp only [List.getElem?_toArray, List.getElem?_cons_succ, List.getElem?_cons_zero]; rfl) (by kernel_rfl) (by kernel_rfl) (by kernel_rfl) (by exact fun _ _ _ h => h) (Or.inl ⟨by rfl, ?hq4_23_24⟩) hHeld ?rq4_23_24
        case hq4_23_24 => (intro w hSw; (try dsimp only at hSw); go_simp; (try with_reducible rfl))
        try simp only [put_laws]
        refine wpAnyH_take (i := 24) (v := ?vq4_24_25) (by simp only [List.getElem?_toArray, List.getElem?_cons_succ, List.getElem?_cons_zero]; rfl) (by kernel_rfl) (by kernel_rfl) (by kernel_rfl) (by exact fun _ _ _ h => h) (Or.inl ⟨by rfl, ?hq4_24_25⟩) hHeld ?rq4_24_25
        case hq4_24_25 => (intro w hSw; (try dsimp only at hSw); go_simp; (try with_reducible rfl))
        try simp only [put_laws]
        refine wpAnyH_take (i := 25) (v := undef) (by simp only [List.getElem?_toArray, List.getElem?_cons_succ, List.getElem?_cons_zero]; rfl) (by kernel_rfl) (by kernel_rfl) (by kernel_rfl) (by exact fun _ _ _ h => h) (Or.inr ⟨by rfl, rfl⟩) hHeld ?_
        try simp only [put_laws]
        refine wpAnyH_take (i := 26) (v := undef) (by simp only [List.getElem?_toArray, List.getElem?_cons_succ, List.getElem?_cons_zero]; rfl) (by kernel_rfl) (by kernel_rfl) (by kernel_rfl) (by exact fun _ _ _ h => h) (Or.inr ⟨by rfl, rfl⟩) hHeld ?_
        try simp only [put_laws]
        refine wpAnyH_take (i := 27) (v := undef) (by simp only [List.getElem?_toArray, List.getElem?_cons_succ, List.getElem?_cons_zero]; rfl) (by kernel_rfl) (by kernel_rfl) (by kernel_rfl) (by exact fun _ _ _ h => h) (Or.inr ⟨by rfl, rfl⟩) hHeld ?_
        try simp only [put_laws]
        refine wpAnyH_take (i := 28) (v := undef) (by simp only [List.getElem?_toArray, List.getElem?_cons_succ, List.getElem?_cons_zero]; rfl) (by kernel_rfl) (by kernel_rfl) (by kernel_rfl) (by exact fun _ _ _ h => h) (Or.inr ⟨by rfl, rfl⟩) hHeld ?_
        try simp only [put_laws]
        refine wpAnyH_take (i := 29) (v := undef) (by simp only [List.getElem?_toArray, List.getElem?_cons_succ, List.getElem?_cons_zero]; rfl) (by kernel_rfl) (by kernel_rfl) (by kernel_rfl) (by exact fun _ _ _ h => h) (Or.inr ⟨by rfl, rfl⟩) hHeld ?_
        try simp only [put_laws]
        refine wpAnyH_take (i := 30) (v := undef) (by simp only [List.getElem?_toArray, List.getElem?_cons_succ, List.getElem?_cons_zero]; rfl) (by kernel_rfl) (by kernel_rfl) (by kernel_rfl) (by exact fun _ _ _ h => h) (Or.inr ⟨by rfl, rfl⟩) hHeld ?_
        try simp only [put_laws]
        refine wpAnyH_take (i := 31) (v := undef) (by simp only [List.getElem?_toArray, List.getElem?_cons_succ, List.getElem?_cons_zero]; rfl) (by kernel_rfl) (by kernel_rfl) (by kernel_rfl) (by exact fun _ _ _ h => h) (Or.inr ⟨by rfl, rfl⟩) hHeld ?_
        try simp only [put_laws]
        refine wpAnyH_take (i := 32) (v := undef) (by simp only [List.getElem?_toArray, List.getElem?_cons_succ, List.getElem?_cons_zero]; rfl) (by kernel_rfl) (by kernel_rfl) (by kernel_rfl) (by exact fun _ _ _ h => h) (Or.inr ⟨by rfl, rfl⟩) hHeld ?_
        try simp only [put_laws]
        refine wpAnyH_take (i := 33) (v := undef) (by simp only [List.getElem?_toArray, List.getElem?_cons_succ, List.getElem?_cons_zero]; rfl) (by kernel_rfl) (by kernel_rfl) (by kernel_rfl) (by exact fun _ _ _ h => h) (Or.inr ⟨by rfl, rfl⟩) hHeld ?_
        try simp only [put_laws]
        refine wpAnyH_take (i := 34) (v := ?vq4_34_35) (by simp only [List.getElem?_toArray, List.getElem?_cons_succ, List.getElem?_cons_zero]; rfl) (by kernel_rfl) (by kernel_rfl) (by kernel_rfl) (by exact fun _ _ _ h => h) (Or.inl ⟨by rfl, ?hq4_34_35⟩) hHeld ?rq4_34_35
        case hq4_34_35 => (intro w hSw; (try dsimp only at hSw); go_simp; (try with_reducible rfl))
        try simp only [put_laws]
        refine wpAnyH_take (i := 35) (v := ?vq4_35_36) (by simp only [List.getElem?_toArray, List.getElem?_cons_succ, List.getElem?_cons_zero]; rfl) (by kernel_rfl) (by kernel_rfl) (by kernel_rfl) (by exact fun _ _ _ h => h) (Or.inl ⟨by rfl, ?hq4_35_36⟩) hHeld ?rq4_35_36
        case hq4_35_36 => (intro w hSw; (try dsimp only at hSw); go_simp; (try with_reducible rfl))
        try simp only [put_laws]
        refine wpAnyH_done (by kernel_rfl) ?_ _
        clear hHeld
        go_wp2
        go_roundw
        case rel => exact ⟨j + 1, false, by omega, by go_num, rfl, Lib.hid (fun h => by cases h), hbw.trans (hbF.mono hbw.size)⟩
        case measure => simp [intOf]; omega
      have hd3 : decide (r < 0) = true := by simpa using h3
      cases hh : hasB (ids.take j) id
      · have HH := Lib.hid hh
        clear hh
        go_upto_region 14 with fail
        refine wp_region_held_drew (S := (fun w' => w'.cell? ⟨H, 0, none⟩ = some (.int .i64 W) ∧ w'.cell? ⟨H, 1, none⟩ = some (.int .i64 D) ∧ w'.cell? ⟨H, 2, none⟩ = some (.slice (some ⟨G, 0, none⟩) m d) ∧ w'.cell? ⟨I, j, none⟩ = some (.int .i64 id))) (by kernel_rfl) ?_ (fun hHeld => ?_)
        · (try dsimp only); first | exact ⟨m0, m1, m2, hc⟩ | exact ⟨(hH9.below hbF).cell 0, (hH9.below hbF).cell 1, (hH9.below hbF).cell 2, (hbF.cell (p := ⟨I, j, none⟩) hbI).trans hc⟩
        refine wpAnyH_take (i := 0) (v := ?vq5_0_1) (by simp only [List.getElem?_toArray, List.getElem?_cons_zero]; rfl) (by kernel_rfl) (by kernel_rfl) (by kernel_rfl) (by exact fun _ _ _ h => h) (Or.inl ⟨by rfl, ?hq5_0_1⟩) hHeld ?rq5_0_1
        case hq5_0_1 => (intro w hSw; (try dsimp only at hSw); go_simp; (try with_reducible rfl))
        try simp only [put_laws]
        refine wpAnyH_take (i := 1) (v := ?vq5_1_2) (by simp only [List.getElem?_toArray, List.getElem?_cons_succ, List.getElem?_cons_zero]; rfl) (by kernel_rfl) (by kernel_rfl) (by kernel_rfl) (by exact fun _ _ _ h => h) (Or.inl ⟨by rfl, ?hq5_1_2⟩) hHeld ?rq5_1_2
        case hq5_1_2 => (intro w hSw; (try dsimp only at hSw); go_simp; (try with_reducible rfl))
        try simp only [put_laws]
        refine wpAnyH_take (i := 2) (v := ?vq5_2_3) (by simp only [List.getElem?_toArray, List.getElem?_cons_succ, List.getElem?_cons_zero]; rfl) (by kernel_rfl) (by kernel_rfl) (by kernel_rfl) (by exact fun _ _ _ h => h) (Or.inl ⟨by rfl, ?hq5_2_3⟩) hHeld ?rq5_2_3
        case hq5_2_3 => (intro w hSw; (try dsimp only at hSw); go_simp; (try with_reducible rfl))
        try simp only [put_laws]
        refine wpAnyH_take (i := 3) (v := ?vq5_3_4) (by simp only [List.getElem?_toArray, List.getElem?_cons_succ, List.getElem?_cons_zero]; rfl) (by kernel_rfl) (by kernel_rfl) (by kernel_rfl) (by exact fun _ _ _ h => h) (Or.inl ⟨by rfl, ?hq5_3_4⟩) hHeld ?rq5_3_4
        case hq5_3_4 => (intro w hSw; (try dsimp only at hSw); go_simp; (try with_reducible rfl))
        try simp only [put_laws]
        refine wpAnyH_take (i := 4) (v := ?vq5_4_5) (by simp only [List.getElem?_toArray, List.getElem?_cons_succ, List.getElem?_cons_zero]; rfl) (by kernel_rfl) (by kernel_rfl) (by kernel_rfl) (by exact fun _ _ _ h => h) (Or.inl ⟨by rfl, ?hq5_4_5⟩) hHeld ?rq5_4_5
        case hq5_4_5 => (intro w hSw; (try dsimp only at hSw); go_simp; (try with_reducible rfl))
        try simp only [put_laws]
        refine wpAnyH_take (i := 5) (v := ?vq5_5_6) (by simp only [List.getElem?_toArray, List.getElem?_cons_succ, List.getElem?_cons_zero]; rfl) (by kernel_rfl) (by kernel_rfl) (by kernel_rfl) (by exact fun _ _ _ h => h) (Or.inl ⟨by rfl, ?hq5_5_6⟩) hHeld ?rq5_5_6
        case hq5_5_6 => (intro w hSw; (try dsimp only at hSw); go_simp; (try with_reducible rfl))
        try simp only [put_laws]
        refine wpAnyH_take (i := 6) (v := ?vq5_6_7) (by simp only [List.getElem?_toArray, List.getElem?_cons_succ, List.getElem?_cons_zero]; rfl) (by kernel_rfl) (by kernel_rfl) (by kernel_rfl) (by exact fun _ _ _ h => h) (Or.inl ⟨by rfl, ?hq5_6_7⟩) hHeld ?rq5_6_7
        case hq5_6_7 => (intro w hSw; (try dsimp only at hSw); go_simp; (try with_reducible rfl))
        try simp only [put_laws]
        refine wpAnyH_take (i := 7) (v := ?vq5_7_8) (by simp only [List.getElem?_toArray, List.getElem?_cons_succ, List.getElem?_cons_zero]; rfl) (by kernel_rfl) (by kernel_rfl) (by kernel_rfl) (by exact fun _ _ _ h => h) (Or.inl ⟨by rfl, ?hq5_7_8⟩) hHeld ?rq5_7_8
        case hq5_7_8 => (intro w hSw; (try dsimp only at hSw); go_simp; (try with_reducible rfl))
        try simp only [put_laws]
        refine wpAnyH_take (i := 8) (v := ?vq5_8_9) (by simp only [List.getElem?_toArray, List.getElem?_cons_succ, List.getElem?_cons_zero]; rfl) (by kernel_rfl) (by kernel_rfl) (by kernel_rfl) (by exact fun _ _ _ h => h) (Or.inl ⟨by rfl, ?hq5_8_9⟩) hHeld ?rq5_8_9
        case hq5_8_9 => (intro w hSw; (try dsimp only at hSw); go_simp; (try with_reducible rfl))
        try simp only [put_laws]
        refine wpAnyH_take (i := 9) (v := ?vq5_9_10) (by simp only [List.getElem?_toArray, List.getElem?_cons_succ, List.getElem?_cons_zero]; rfl) (by kernel_rfl) (by kernel_rfl) (by kernel_rfl) (by exact fun _ _ _ h => h) (Or.inl ⟨by rfl, ?hq5_9_10⟩) hHeld ?rq5_9_10
        case hq5_9_10 => (intro w hSw; (try dsimp only at hSw); go_simp; (try with_reducible rfl))
        try simp only [put_laws]
        refine wpAnyH_take (i := 10) (v := ?vq5_10_11) (by simp only [List.getElem?_toArray, List.getElem?_cons_succ, List.getElem?_cons_zero]; rfl) (by kernel_rfl) (by kernel_rfl) (by kernel_rfl) (by exact fun _ _ _ h => h) (Or.inl ⟨by rfl, ?hq5_10_11⟩) hHeld ?rq5_10_11
        case hq5_10_11 => (intro w hSw; (try dsimp only at hSw); go_simp; (try with_reducible rfl))
        try simp only [put_laws]
        refine wpAnyH_take (i := 11) (v := ?vq5_11_12) (by simp only [List.getElem?_toArray, List.getElem?_cons_succ, List.getElem?_cons_zero]; rfl) (by kernel_rfl) (by kernel_rfl) (by kernel_rfl) (by exact fun _ _ _ h => h) (Or.inl ⟨by rfl, ?hq5_11_12⟩) hHeld ?rq5_11_12
        case hq5_11_12 => (intro w hSw; (try dsimp only at hSw); go_simp; (try with_reducible rfl))
        try simp only [put_laws]
        refine wpAnyH_take (i := 12) (v := ?vq5_12_13) (by simp only [List.getElem?_toArray, List.getElem?_cons_succ, List.getElem?_cons_zero]; rfl) (by kernel_rfl) (by kernel_rfl) (by kernel_rfl) (by exact fun _ _ _ h => h) (Or.inl ⟨by rfl, ?hq5_12_13⟩) hHeld ?rq5_12_13
        case hq5_12_13 => (intro w hSw; (try dsimp only at hSw); go_simp; (try with_reducible rfl))
        try simp only [put_laws]
        refine wpAnyH_take (i := 13) (v := ?vq5_13_14) (by simp only [List.getElem?_toArray, List.getElem?_cons_succ, List.getElem?_cons_zero]; rfl) (by kernel_rfl) (by kernel_rfl) (by kernel_rfl) (by exact fun _ _ _ h => h) (Or.inl ⟨by rfl, ?hq5_13_14⟩) hHeld ?rq5_13_14
        case hq5_13_14 => (intro w hSw; (try dsimp only at hSw); go_simp; (try with_reducible rfl))
        try simp only [put_laws]
        refine wpAnyH_take (i := 14) (v := ?vq5_14_15) (by simp only [List.getElem?_toArray, List.getElem?_cons_succ, List.getElem?_cons_zero]; rfl) (by kernel_rfl) (by kernel_rfl) (by kernel_rfl) (by exact fun _ _ _ h => h) (Or.inl ⟨by rfl, ?hq5_14_15⟩) hHeld ?rq5_14_15
        case hq5_14_15 => (intro w hSw; (try dsimp only at hSw); go_simp; (try with_reducible rfl))
        try simp only [put_laws]
        refine wpAnyH_take (i := 15) (v := ?vq5_15_16) (by simp only [List.getElem?_toArray, List.getElem?_cons_succ, List.getElem?_cons_zero]; rfl) (by kernel_rfl) (by kernel_rfl) (by kernel_rfl) (by exact fun _ _ _ h => h) (Or.inl ⟨by rfl, ?hq5_15_16⟩) hHeld ?rq5_15_16
        case hq5_15_16 => (intro w hSw; (try dsimp only at hSw); go_simp; (try with_reducible rfl))
        try simp only [put_laws]
        refine wpAnyH_take (i := 16) (v := ?vq5_16_17) (by simp only [List.getElem?_toArray, List.getElem?_cons_succ, List.getElem?_cons_zero]; rfl) (by kernel_rfl) (by kernel_rfl) (by kernel_rfl) (by exact fun _ _ _ h => h) (Or.inl ⟨by rfl, ?hq5_16_17⟩) hHeld ?rq5_16_17
        case hq5_16_17 => (intro w hSw; (try dsimp only at hSw); go_simp; (try with_reducible rfl))
        try simp only [put_laws]
        refine wpAnyH_take (i := 17) (v := ?vq5_17_18) (by simp only [List.getElem?_toArray, List.getElem?_cons_succ, List.getElem?_cons_zero]; rfl) (by kernel_rfl) (by kernel_rfl) (by kernel_rfl) (by exact fun _ _ _ h => h) (Or.inl ⟨by rfl, ?hq5_17_18⟩) hHeld ?rq5_17_18
        case hq5_17_18 => (intro w hSw; (try dsimp only at hSw); go_simp; (try with_reducible rfl))
        try simp only [put_laws]
        refine wpAnyH_take (i := 18) (v := ?vq5_18_19) (by simp only [List.getElem?_toArray, List.getElem?_cons_succ, List.getElem?_cons_zero]; rfl) (by kernel_rfl) (by kernel_rfl) (by kernel_rfl) (by exact fun _ _ _ h => h) (Or.inl ⟨by rfl, ?hq5_18_19⟩) hHeld ?rq5_18_19
        case hq5_18_19 => (intro w hSw; (try dsimp only at hSw); go_simp; (try with_reducible rfl))
        try simp only [put_laws]
        refine wpAnyH_take (i := 19) (v := ?vq5_19_20) (by simp only [List.getElem?_toArray, List.getElem?_cons_succ, List.getElem?_cons_zero]; rfl) (by kernel_rfl) (by kernel_rfl) (by kernel_rfl) (by exact fun _ _ _ h => h) (Or.inl ⟨by rfl, ?hq5_19_20⟩) hHeld ?rq5_19_20
        case hq5_19_20 => (intro w hSw; (try dsimp only at hSw); go_simp; (try with_reducible rfl))
        try simp only [put_laws]
        refine wpAnyH_take (i := 20) (v := ?vq5_20_21) (by simp only [List.getElem?_toArray, List.getElem?_cons_succ, List.getElem?_cons_zero]; rfl) (by kernel_rfl) (by kernel_rfl) (by kernel_rfl) (by exact fun _ _ _ h => h) (Or.inl ⟨by rfl, ?hq5_20_21⟩) hHeld ?rq5_20_21
        case hq5_20_21 => (intro w hSw; (try dsimp only at hSw); go_simp; (try with_reducible rfl))
        try simp only [put_laws]
        refine wpAnyH_ready (rs := [21]) (by kernel_rfl) (by simp) ?_
        refine AllReadyH.cons (by simp only [List.getElem?_toArray, List.getElem?_cons_succ, List.getElem?_cons_zero]; rfl) (fun K hK => ?_) AllReadyH.nil
        go_simp
        refine (hallFind_any W D m (some ⟨G, 0, none⟩) d g id _ (hA9.out.below (Below.refl _ _).drew) h1).mono ?_; rintro e wf ⟨rfl, hb0⟩; rw [hr.out]; have hbF : Below w9.heap.size w9 wf := (Below.refl _ _).drew.trans hb0; clear hb0
        refine hK.out _ _ ?_ (fun hHeld => ?_)
        · (try dsimp only); first | exact ⟨m0, m1, m2, hc⟩ | exact ⟨(hH9.below hbF).cell 0, (hH9.below hbF).cell 1, (hH9.below hbF).cell 2, (hbF.cell (p := ⟨I, j, none⟩) hbI).trans hc⟩
        clear hK K
        try simp only [put_laws]
        refine wpAnyH_take (i := 22) (v := ?vq5_22_23) (by simp only [List.getElem?_toArray, List.getElem?_cons_succ, List.getElem?_cons_zero]; rfl) (by kernel_rfl) (by kernel_rfl) (by kernel_rfl) (by exact fun _ _ _ h => h) (Or.inl ⟨by rfl, ?hq5_22_23⟩) hHeld ?rq5_22_23
        case hq5_22_23 => (intro w hSw; (try dsimp only at hSw); go_simp; (try with_reducible rfl))
        try simp only [put_laws]
        refine wpAnyH_take (i := 23) (v := ?vq5_23_24) (by simp only [List.getElem?_toArray, List.getElem?_cons_succ, List.getElem?_cons_zero]; rfl) (by kernel_rfl) (by kernel_rfl) (by kernel_rfl) (by exact fun _ _ _ h => h) (Or.inl ⟨by rfl, ?hq5_23_24⟩) hHeld ?rq5_23_24
        case hq5_23_24 => (intro w hSw; (try dsimp only at hSw); go_simp; (try with_reducible rfl))
        try simp only [put_laws]
        refine wpAnyH_take (i := 24) (v := ?vq5_24_25) (by simp only [List.getElem?_toArray, List.getElem?_cons_succ, List.getElem?_cons_zero]; rfl) (by kernel_rfl) (by kernel_rfl) (by kernel_rfl) (by exact fun _ _ _ h => h) (Or.inl ⟨by rfl, ?hq5_24_25⟩) hHeld ?rq5_24_25
        case hq5_24_25 => (intro w hSw; (try dsimp only at hSw); go_simp; (try with_reducible rfl))
        try simp only [put_laws]
        refine wpAnyH_take (i := 25) (v := ?vq5_25_26) (by simp only [List.getElem?_toArray, List.getElem?_cons_succ, List.getElem?_cons_zero]; rfl) (by kernel_rfl) (by kernel_rfl) (by kernel_rfl) (by exact fun _ _ _ h => h) (Or.inl ⟨by rfl, ?hq5_25_26⟩) hHeld ?rq5_25_26
        case hq5_25_26 => (intro w hSw; (try dsimp only at hSw); go_simp; (try with_reducible rfl))
        try simp only [put_laws]
        refine wpAnyH_take (i := 26) (v := ?vq5_26_27) (by simp only [List.getElem?_toArray, List.getElem?_cons_succ, List.getElem?_cons_zero]; rfl) (by kernel_rfl) (by kernel_rfl) (by kernel_rfl) (by exact fun _ _ _ h => h) (Or.inl ⟨by rfl, ?hq5_26_27⟩) hHeld ?rq5_26_27
        case hq5_26_27 => (intro w hSw; (try dsimp only at hSw); go_simp; (try with_reducible rfl))
        try simp only [put_laws]
        refine wpAnyH_take (i := 27) (v := ?vq5_27_28) (by simp only [List.getElem?_toArray, List.getElem?_cons_succ, List.getElem?_cons_zero]; rfl) (by kernel_rfl) (by kernel_rfl) (by kernel_rfl) (by exact fun _ _ _ h => h) (Or.inl ⟨by rfl, ?hq5_27_28⟩) hHeld ?rq5_27_28
        case hq5_27_28 => (intro w hSw; (try dsimp only at hSw); go_simp; (try with_reducible rfl))
        try simp only [put_laws]
        refine wpAnyH_take (i := 28) (v := ?vq5_28_29) (by simp only [List.getElem?_toArray, List.getElem?_cons_succ, List.getElem?_cons_zero]; rfl) (by kernel_rfl) (by kernel_rfl) (by kernel_rfl) (by exact fun _ _ _ h => h) (Or.inl ⟨by rfl, ?hq5_28_29⟩) hHeld ?rq5_28_29
        case hq5_28_29 => (intro w hSw; (try dsimp only at hSw); go_simp; (try with_reducible rfl))
        try simp only [put_laws]
        refine wpAnyH_take (i := 29) (v := ?vq5_29_30) (by simp only [List.getElem?_toArray, List.getElem?_cons_succ, List.getElem?_cons_zero]; rfl) (by kernel_rfl) (by kernel_rfl) (by kernel_rfl) (by exact fun _ _ _ h => h) (Or.inl ⟨by rfl, ?hq5_29_30⟩) hHeld ?rq5_29_30
        case hq5_29_30 => (intro w hSw; (try dsimp only at hSw); go_simp; (try with_reducible rfl))
        try simp only [put_laws]
        refine wpAnyH_take (i := 30) (v := ?vq5_30_31) (by simp only [List.getElem?_toArray, List.getElem?_cons_succ, List.getElem?_cons_zero]; rfl) (by kernel_rfl) (by kernel_rfl) (by kernel_rfl) (by exact fun _ _ _ h => h) (Or.inl ⟨by rfl, ?hq5_30_31⟩) hHeld ?rq5_30_31
        case hq5_30_31 => (intro w hSw; (try dsimp only at hSw); go_simp; (try with_reducible rfl))
        try simp only [put_laws]
        refine wpAnyH_take (i := 31) (v := ?vq5_31_32) (by simp only [List.getElem?_toArray, List.getElem?_cons_succ, List.getElem?_cons_zero]; rfl) (by kernel_rfl) (by kernel_rfl) (by kernel_rfl) (by exact fun _ _ _ h => h) (Or.inl ⟨by rfl, ?hq5_31_32⟩) hHeld ?rq5_31_32
        case hq5_31_32 => (intro w hSw; (try dsimp only at hSw); go_simp; (try with_reducible rfl))
        try simp only [put_laws]
        refine wpAnyH_ready (rs := [32]) (by kernel_rfl) (by simp) ?_
        refine AllReadyH.cons (by simp only [List.getElem?_toArray, List.getElem?_cons_succ, List.getElem?_cons_zero]; rfl) (fun K hK => ?_) AllReadyH.nil
        go_simp
        refine (hasInt_no (some ⟨I, 0, none⟩) j lc (ids.take j) id _ (by omega) ((hI9.out.below hbF).takeM (by omega)) HH.out).mono ?_; rintro e wf2 ⟨rfl, rfl⟩
        refine hK.out _ _ ?_ (fun hHeld => ?_)
        · (try dsimp only); first | exact ⟨m0, m1, m2, hc⟩ | exact ⟨(hH9.below hbF).cell 0, (hH9.below hbF).cell 1, (hH9.below hbF).cell 2, (hbF.cell (p := ⟨I, j, none⟩) hbI).trans hc⟩
        clear hK K
        try simp only [put_laws]
        refine wpAnyH_take (i := 33) (v := ?vq5_33_34) (by simp only [List.getElem?_toArray, List.getElem?_cons_succ, List.getElem?_cons_zero]; rfl) (by kernel_rfl) (by kernel_rfl) (by kernel_rfl) (by exact fun _ _ _ h => h) (Or.inl ⟨by rfl, ?hq5_33_34⟩) hHeld ?rq5_33_34
        case hq5_33_34 => (intro w hSw; (try dsimp only at hSw); go_simp; (try with_reducible rfl))
        try simp only [put_laws]
        refine wpAnyH_take (i := 34) (v := ?vq5_34_35) (by simp only [List.getElem?_toArray, List.getElem?_cons_succ, List.getElem?_cons_zero]; rfl) (by kernel_rfl) (by kernel_rfl) (by kernel_rfl) (by exact fun _ _ _ h => h) (Or.inl ⟨by rfl, ?hq5_34_35⟩) hHeld ?rq5_34_35
        case hq5_34_35 => (intro w hSw; (try dsimp only at hSw); go_simp; (try with_reducible rfl))
        try simp only [put_laws]
        refine wpAnyH_take (i := 35) (v := ?vq5_35_36) (by simp only [List.getElem?_toArray, List.getElem?_cons_succ, List.getElem?_cons_zero]; rfl) (by kernel_rfl) (by kernel_rfl) (by kernel_rfl) (by exact fun _ _ _ h => h) (Or.inl ⟨by rfl, ?hq5_35_36⟩) hHeld ?rq5_35_36
        case hq5_35_36 => (intro w hSw; (try dsimp only at hSw); go_simp; (try with_reducible rfl))
        try simp only [put_laws]
        refine wpAnyH_done (by kernel_rfl) ?_ _
        clear hHeld
        go_wp2
        go_roundw
        case rel => exact ⟨j + 1, true, by omega, by go_num, rfl, Lib.hid (fun _ => goodK_next HG.out HID h1 h2 (idx_neg.1 (by rw [hr.out]; exact h3)) (fun hm => by have := HH.out; rw [hasB_not] at this; exact this hm)), hbw.trans (hbF.mono hbw.size)⟩
        case measure => simp [intOf]; omega
      · have HH := Lib.hid hh
        clear hh
        go_upto_region 14 with fail
        refine wp_region_held_drew (S := (fun w' => w'.cell? ⟨H, 0, none⟩ = some (.int .i64 W) ∧ w'.cell? ⟨H, 1, none⟩ = some (.int .i64 D) ∧ w'.cell? ⟨H, 2, none⟩ = some (.slice (some ⟨G, 0, none⟩) m d) ∧ w'.cell? ⟨I, j, none⟩ = some (.int .i64 id))) (by kernel_rfl) ?_ (fun hHeld => ?_)
        · (try dsimp only); first | exact ⟨m0, m1, m2, hc⟩ | exact ⟨(hH9.below hbF).cell 0, (hH9.below hbF).cell 1, (hH9.below hbF).cell 2, (hbF.cell (p := ⟨I, j, none⟩) hbI).trans hc⟩
        refine wpAnyH_take (i := 0) (v := ?vq6_0_1) (by simp only [List.getElem?_toArray, List.getElem?_cons_zero]; rfl) (by kernel_rfl) (by kernel_rfl) (by kernel_rfl) (by exact fun _ _ _ h => h) (Or.inl ⟨by rfl, ?hq6_0_1⟩) hHeld ?rq6_0_1
        case hq6_0_1 => (intro w hSw; (try dsimp only at hSw); go_simp; (try with_reducible rfl))
        try simp only [put_laws]
        refine wpAnyH_take (i := 1) (v := ?vq6_1_2) (by simp only [List.getElem?_toArray, List.getElem?_cons_succ, List.getElem?_cons_zero]; rfl) (by kernel_rfl) (by kernel_rfl) (by kernel_rfl) (by exact fun _ _ _ h => h) (Or.inl ⟨by rfl, ?hq6_1_2⟩) hHeld ?rq6_1_2
        case hq6_1_2 => (intro w hSw; (try dsimp only at hSw); go_simp; (try with_reducible rfl))
        try simp only [put_laws]
        refine wpAnyH_take (i := 2) (v := ?vq6_2_3) (by simp only [List.getElem?_toArray, List.getElem?_cons_succ, List.getElem?_cons_zero]; rfl) (by kernel_rfl) (by kernel_rfl) (by kernel_rfl) (by exact fun _ _ _ h => h) (Or.inl ⟨by rfl, ?hq6_2_3⟩) hHeld ?rq6_2_3
        case hq6_2_3 => (intro w hSw; (try dsimp only at hSw); go_simp; (try with_reducible rfl))
        try simp only [put_laws]
        refine wpAnyH_take (i := 3) (v := ?vq6_3_4) (by simp only [List.getElem?_toArray, List.getElem?_cons_succ, List.getElem?_cons_zero]; rfl) (by kernel_rfl) (by kernel_rfl) (by kernel_rfl) (by exact fun _ _ _ h => h) (Or.inl ⟨by rfl, ?hq6_3_4⟩) hHeld ?rq6_3_4
        case hq6_3_4 => (intro w hSw; (try dsimp only at hSw); go_simp; (try with_reducible rfl))
        try simp only [put_laws]
        refine wpAnyH_take (i := 4) (v := ?vq6_4_5) (by simp only [List.getElem?_toArray, List.getElem?_cons_succ, List.getElem?_cons_zero]; rfl) (by kernel_rfl) (by kernel_rfl) (by kernel_rfl) (by exact fun _ _ _ h => h) (Or.inl ⟨by rfl, ?hq6_4_5⟩) hHeld ?rq6_4_5
        case hq6_4_5 => (intro w hSw; (try dsimp only at hSw); go_simp; (try with_reducible rfl))
        try simp only [put_laws]
        refine wpAnyH_take (i := 5) (v := ?vq6_5_6) (by simp only [List.getElem?_toArray, List.getElem?_cons_succ, List.getElem?_cons_zero]; rfl) (by kernel_rfl) (by kernel_rfl) (by kernel_rfl) (by exact fun _ _ _ h => h) (Or.inl ⟨by rfl, ?hq6_5_6⟩) hHeld ?rq6_5_6
        case hq6_5_6 => (intro w hSw; (try dsimp only at hSw); go_simp; (try with_reducible rfl))
        try simp only [put_laws]
        refine wpAnyH_take (i := 6) (v := ?vq6_6_7) (by simp only [List.getElem?_toArray, List.getElem?_cons_succ, List.getElem?_cons_zero]; rfl) (by kernel_rfl) (by kernel_rfl) (by kernel_rfl) (by exact fun _ _ _ h => h) (Or.inl ⟨by rfl, ?hq6_6_7⟩) hHeld ?rq6_6_7
        case hq6_6_7 => (intro w hSw; (try dsimp only at hSw); go_simp; (try with_reducible rfl))
        try simp only [put_laws]
        refine wpAnyH_take (i := 7) (v := ?vq6_7_8) (by simp only [List.getElem?_toArray, List.getElem?_cons_succ, List.getElem?_cons_zero]; rfl) (by kernel_rfl) (by kernel_rfl) (by kernel_rfl) (by exact fun _ _ _ h => h) (Or.inl ⟨by rfl, ?hq6_7_8⟩) hHeld ?rq6_7_8
        case hq6_7_8 => (intro w hSw; (try dsimp only at hSw); go_simp; (try with_reducible rfl))
        try simp only [put_laws]
        refine wpAnyH_take (i := 8) (v := ?vq6_8_9) (by simp only [List.getElem?_toArray, List.getElem?_cons_succ, List.getElem?_cons_zero]; rfl) (by kernel_rfl) (by kernel_rfl) (by kernel_rfl) (by exact fun _ _ _ h => h) (Or.inl ⟨by rfl, ?hq6_8_9⟩) hHeld ?rq6_8_9
        case hq6_8_9 => (intro w hSw; (try dsimp only at hSw); go_simp; (try with_reducible rfl))
        try simp only [put_laws]
        refine wpAnyH_take (i := 9) (v := ?vq6_9_10) (by simp only [List.getElem?_toArray, List.getElem?_cons_succ, List.getElem?_cons_zero]; rfl) (by kernel_rfl) (by kernel_rfl) (by kernel_rfl) (by exact fun _ _ _ h => h) (Or.inl ⟨by rfl, ?hq6_9_10⟩) hHeld ?rq6_9_10
        case hq6_9_10 => (intro w hSw; (try dsimp only at hSw); go_simp; (try with_reducible rfl))
        try simp only [put_laws]
        refine wpAnyH_take (i := 10) (v := ?vq6_10_11) (by simp only [List.getElem?_toArray, List.getElem?_cons_succ, List.getElem?_cons_zero]; rfl) (by kernel_rfl) (by kernel_rfl) (by kernel_rfl) (by exact fun _ _ _ h => h) (Or.inl ⟨by rfl, ?hq6_10_11⟩) hHeld ?rq6_10_11
        case hq6_10_11 => (intro w hSw; (try dsimp only at hSw); go_simp; (try with_reducible rfl))
        try simp only [put_laws]
        refine wpAnyH_take (i := 11) (v := ?vq6_11_12) (by simp only [List.getElem?_toArray, List.getElem?_cons_succ, List.getElem?_cons_zero]; rfl) (by kernel_rfl) (by kernel_rfl) (by kernel_rfl) (by exact fun _ _ _ h => h) (Or.inl ⟨by rfl, ?hq6_11_12⟩) hHeld ?rq6_11_12
        case hq6_11_12 => (intro w hSw; (try dsimp only at hSw); go_simp; (try with_reducible rfl))
        try simp only [put_laws]
        refine wpAnyH_take (i := 12) (v := ?vq6_12_13) (by simp only [List.getElem?_toArray, List.getElem?_cons_succ, List.getElem?_cons_zero]; rfl) (by kernel_rfl) (by kernel_rfl) (by kernel_rfl) (by exact fun _ _ _ h => h) (Or.inl ⟨by rfl, ?hq6_12_13⟩) hHeld ?rq6_12_13
        case hq6_12_13 => (intro w hSw; (try dsimp only at hSw); go_simp; (try with_reducible rfl))
        try simp only [put_laws]
        refine wpAnyH_take (i := 13) (v := ?vq6_13_14) (by simp only [List.getElem?_toArray, List.getElem?_cons_succ, List.getElem?_cons_zero]; rfl) (by kernel_rfl) (by kernel_rfl) (by kernel_rfl) (by exact fun _ _ _ h => h) (Or.inl ⟨by rfl, ?hq6_13_14⟩) hHeld ?rq6_13_14
        case hq6_13_14 => (intro w hSw; (try dsimp only at hSw); go_simp; (try with_reducible rfl))
        try simp only [put_laws]
        refine wpAnyH_take (i := 14) (v := ?vq6_14_15) (by simp only [List.getElem?_toArray, List.getElem?_cons_succ, List.getElem?_cons_zero]; rfl) (by kernel_rfl) (by kernel_rfl) (by kernel_rfl) (by exact fun _ _ _ h => h) (Or.inl ⟨by rfl, ?hq6_14_15⟩) hHeld ?rq6_14_15
        case hq6_14_15 => (intro w hSw; (try dsimp only at hSw); go_simp; (try with_reducible rfl))
        try simp only [put_laws]
        refine wpAnyH_take (i := 15) (v := ?vq6_15_16) (by simp only [List.getElem?_toArray, List.getElem?_cons_succ, List.getElem?_cons_zero]; rfl) (by kernel_rfl) (by kernel_rfl) (by kernel_rfl) (by exact fun _ _ _ h => h) (Or.inl ⟨by rfl, ?hq6_15_16⟩) hHeld ?rq6_15_16
        case hq6_15_16 => (intro w hSw; (try dsimp only at hSw); go_simp; (try with_reducible rfl))
        try simp only [put_laws]
        refine wpAnyH_take (i := 16) (v := ?vq6_16_17) (by simp only [List.getElem?_toArray, List.getElem?_cons_succ, List.getElem?_cons_zero]; rfl) (by kernel_rfl) (by kernel_rfl) (by kernel_rfl) (by exact fun _ _ _ h => h) (Or.inl ⟨by rfl, ?hq6_16_17⟩) hHeld ?rq6_16_17
        case hq6_16_17 => (intro w hSw; (try dsimp only at hSw); go_simp; (try with_reducible rfl))
        try simp only [put_laws]
        refine wpAnyH_take (i := 17) (v := ?vq6_17_18) (by simp only [List.getElem?_toArray, List.getElem?_cons_succ, List.getElem?_cons_zero]; rfl) (by kernel_rfl) (by kernel_rfl) (by kernel_rfl) (by exact fun _ _ _ h => h) (Or.inl ⟨by rfl, ?hq6_17_18⟩) hHeld ?rq6_17_18
        case hq6_17_18 => (intro w hSw; (try dsimp only at hSw); go_simp; (try with_reducible rfl))
        try simp only [put_laws]
        refine wpAnyH_take (i := 18) (v := ?vq6_18_19) (by simp only [List.getElem?_toArray, List.getElem?_cons_succ, List.getElem?_cons_zero]; rfl) (by kernel_rfl) (by kernel_rfl) (by kernel_rfl) (by exact fun _ _ _ h => h) (Or.inl ⟨by rfl, ?hq6_18_19⟩) hHeld ?rq6_18_19
        case hq6_18_19 => (intro w hSw; (try dsimp only at hSw); go_simp; (try with_reducible rfl))
        try simp only [put_laws]
        refine wpAnyH_take (i := 19) (v := ?vq6_19_20) (by simp only [List.getElem?_toArray, List.getElem?_cons_succ, List.getElem?_cons_zero]; rfl) (by kernel_rfl) (by kernel_rfl) (by kernel_rfl) (by exact fun _ _ _ h => h) (Or.inl ⟨by rfl, ?hq6_19_20⟩) hHeld ?rq6_19_20
        case hq6_19_20 => (intro w hSw; (try dsimp only at hSw); go_simp; (try with_reducible rfl))
        try simp only [put_laws]
        refine wpAnyH_take (i := 20) (v := ?vq6_20_21) (by simp only [List.getElem?_toArray, List.getElem?_cons_succ, List.getElem?_cons_zero]; rfl) (by kernel_rfl) (by kernel_rfl) (by kernel_rfl) (by exact fun _ _ _ h => h) (Or.inl ⟨by rfl, ?hq6_20_21⟩) hHeld ?rq6_20_21
        case hq6_20_21 => (intro w hSw; (try dsimp only at hSw); go_simp; (try with_reducible rfl))
        try simp only [put_laws]
        refine wpAnyH_ready (rs := [21]) (by kernel_rfl) (by simp) ?_
        refine AllReadyH.cons (by simp only [List.getElem?_toArray, List.getElem?_cons_succ, List.getElem?_cons_zero]; rfl) (fun K hK => ?_) AllReadyH.nil
        go_simp
        refine (hallFind_any W D m (some ⟨G, 0, none⟩) d g id _ (hA9.out.below (Below.refl _ _).drew) h1).mono ?_; rintro e wf ⟨rfl, hb0⟩; rw [hr.out]; have hbF : Below w9.heap.size w9 wf := (Below.refl _ _).drew.trans hb0; clear hb0
        refine hK.out _ _ ?_ (fun hHeld => ?_)
        · (try dsimp only); first | exact ⟨m0, m1, m2, hc⟩ | exact ⟨(hH9.below hbF).cell 0, (hH9.below hbF).cell 1, (hH9.below hbF).cell 2, (hbF.cell (p := ⟨I, j, none⟩) hbI).trans hc⟩
        clear hK K
        try simp only [put_laws]
        refine wpAnyH_take (i := 22) (v := ?vq6_22_23) (by simp only [List.getElem?_toArray, List.getElem?_cons_succ, List.getElem?_cons_zero]; rfl) (by kernel_rfl) (by kernel_rfl) (by kernel_rfl) (by exact fun _ _ _ h => h) (Or.inl ⟨by rfl, ?hq6_22_23⟩) hHeld ?rq6_22_23
        case hq6_22_23 => (intro w hSw; (try dsimp only at hSw); go_simp; (try with_reducible rfl))
        try simp only [put_laws]
        refine wpAnyH_take (i := 23) (v := ?vq6_23_24) (by simp only [List.getElem?_toArray, List.getElem?_cons_succ, List.getElem?_cons_zero]; rfl) (by kernel_rfl) (by kernel_rfl) (by kernel_rfl) (by exact fun _ _ _ h => h) (Or.inl ⟨by rfl, ?hq6_23_24⟩) hHeld ?rq6_23_24
        case hq6_23_24 => (intro w hSw; (try dsimp only at hSw); go_simp; (try with_reducible rfl))
        try simp only [put_laws]
        refine wpAnyH_take (i := 24) (v := ?vq6_24_25) (by simp only [List.getElem?_toArray, List.getElem?_cons_succ, List.getElem?_cons_zero]; rfl) (by kernel_rfl) (by kernel_rfl) (by kernel_rfl) (by exact fun _ _ _ h => h) (Or.inl ⟨by rfl, ?hq6_24_25⟩) hHeld ?rq6_24_25
        case hq6_24_25 => (intro w hSw; (try dsimp only at hSw); go_simp; (try with_reducible rfl))
        try simp only [put_laws]
        refine wpAnyH_take (i := 25) (v := ?vq6_25_26) (by simp only [List.getElem?_toArray, List.getElem?_cons_succ, List.getElem?_cons_zero]; rfl) (by kernel_rfl) (by kernel_rfl) (by kernel_rfl) (by exact fun _ _ _ h => h) (Or.inl ⟨by rfl, ?hq6_25_26⟩) hHeld ?rq6_25_26
        case hq6_25_26 => (intro w hSw; (try dsimp only at hSw); go_simp; (try with_reducible rfl))
        try simp only [put_laws]
        refine wpAnyH_take (i := 26) (v := ?vq6_26_27) (by simp only [List.getElem?_toArray, List.getElem?_cons_succ, List.getElem?_cons_zero]; rfl) (by kernel_rfl) (by kernel_rfl) (by kernel_rfl) (by exact fun _ _ _ h => h) (Or.inl ⟨by rfl, ?hq6_26_27⟩) hHeld ?rq6_26_27
        case hq6_26_27 => (intro w hSw; (try dsimp only at hSw); go_simp; (try with_reducible rfl))
        try simp only [put_laws]
        refine wpAnyH_take (i := 27) (v := ?vq6_27_28) (by simp only [List.getElem?_toArray, List.getElem?_cons_succ, List.getElem?_cons_zero]; rfl) (by kernel_rfl) (by kernel_rfl) (by kernel_rfl) (by exact fun _ _ _ h => h) (Or.inl ⟨by rfl, ?hq6_27_28⟩) hHeld ?rq6_27_28
        case hq6_27_28 => (intro w hSw; (try dsimp only at hSw); go_simp; (try with_reducible rfl))
        try simp only [put_laws]
        refine wpAnyH_take (i := 28) (v := ?vq6_28_29) (by simp only [List.getElem?_toArray, List.getElem?_cons_succ, List.getElem?_cons_zero]; rfl) (by kernel_rfl) (by kernel_rfl) (by kernel_rfl) (by exact fun _ _ _ h => h) (Or.inl ⟨by rfl, ?hq6_28_29⟩) hHeld ?rq6_28_29
        case hq6_28_29 => (intro w hSw; (try dsimp only at hSw); go_simp; (try with_reducible rfl))
        try simp only [put_laws]
        refine wpAnyH_take (i := 29) (v := ?vq6_29_30) (by simp only [List.getElem?_toArray, List.getElem?_cons_succ, List.getElem?_cons_zero]; rfl) (by kernel_rfl) (by kernel_rfl) (by kernel_rfl) (by exact fun _ _ _ h => h) (Or.inl ⟨by rfl, ?hq6_29_30⟩) hHeld ?rq6_29_30
        case hq6_29_30 => (intro w hSw; (try dsimp only at hSw); go_simp; (try with_reducible rfl))
        try simp only [put_laws]
        refine wpAnyH_take (i := 30) (v := ?vq6_30_31) (by simp only [List.getElem?_toArray, List.getElem?_cons_succ, List.getElem?_cons_zero]; rfl) (by kernel_rfl) (by kernel_rfl) (by kernel_rfl) (by exact fun _ _ _ h => h) (Or.inl ⟨by rfl, ?hq6_30_31⟩) hHeld ?rq6_30_31
        case hq6_30_31 => (intro w hSw; (try dsimp only at hSw); go_simp; (try with_reducible rfl))
        try simp only [put_laws]
        refine wpAnyH_take (i := 31) (v := ?vq6_31_32) (by simp only [List.getElem?_toArray, List.getElem?_cons_succ, List.getElem?_cons_zero]; rfl) (by kernel_rfl) (by kernel_rfl) (by kernel_rfl) (by exact fun _ _ _ h => h) (Or.inl ⟨by rfl, ?hq6_31_32⟩) hHeld ?rq6_31_32
        case hq6_31_32 => (intro w hSw; (try dsimp only at hSw); go_simp; (try with_reducible rfl))
        try simp only [put_laws]
        refine wpAnyH_ready (rs := [32]) (by kernel_rfl) (by simp) ?_
        refine AllReadyH.cons (by simp only [List.getElem?_toArray, List.getElem?_cons_succ, List.getElem?_cons_zero]; rfl) (fun K hK => ?_) AllReadyH.nil
        go_simp
        refine (hasInt_yes (some ⟨I, 0, none⟩) j lc (ids.take j) id _ (by omega) ((hI9.out.below hbF).takeM (by omega)) HH.out).mono ?_; rintro e wf2 ⟨rfl, rfl⟩
        refine hK.out _ _ ?_ (fun hHeld => ?_)
        · (try dsimp only); first | exact ⟨m0, m1, m2, hc⟩ | exact ⟨(hH9.below hbF).cell 0, (hH9.below hbF).cell 1, (hH9.below hbF).cell 2, (hbF.cell (p := ⟨I, j, none⟩) hbI).trans hc⟩
        clear hK K
        try simp only [put_laws]
        refine wpAnyH_take (i := 33) (v := ?vq6_33_34) (by simp only [List.getElem?_toArray, List.getElem?_cons_succ, List.getElem?_cons_zero]; rfl) (by kernel_rfl) (by kernel_rfl) (by kernel_rfl) (by exact fun _ _ _ h => h) (Or.inl ⟨by rfl, ?hq6_33_34⟩) hHeld ?rq6_33_34
        case hq6_33_34 => (intro w hSw; (try dsimp only at hSw); go_simp; (try with_reducible rfl))
        try simp only [put_laws]
        refine wpAnyH_take (i := 34) (v := ?vq6_34_35) (by simp only [List.getElem?_toArray, List.getElem?_cons_succ, List.getElem?_cons_zero]; rfl) (by kernel_rfl) (by kernel_rfl) (by kernel_rfl) (by exact fun _ _ _ h => h) (Or.inl ⟨by rfl, ?hq6_34_35⟩) hHeld ?rq6_34_35
        case hq6_34_35 => (intro w hSw; (try dsimp only at hSw); go_simp; (try with_reducible rfl))
        try simp only [put_laws]
        refine wpAnyH_take (i := 35) (v := ?vq6_35_36) (by simp only [List.getElem?_toArray, List.getElem?_cons_succ, List.getElem?_cons_zero]; rfl) (by kernel_rfl) (by kernel_rfl) (by kernel_rfl) (by exact fun _ _ _ h => h) (Or.inl ⟨by rfl, ?hq6_35_36⟩) hHeld ?rq6_35_36
        case hq6_35_36 => (intro w hSw; (try dsimp only at hSw); go_simp; (try with_reducible rfl))
        try simp only [put_laws]
        refine wpAnyH_done (by kernel_rfl) ?_ _
        clear hHeld
        go_wp2
        go_roundw
        case rel => exact ⟨j + 1, false, by omega, by go_num, rfl, Lib.hid (fun h => by cases h), hbw.trans (hbF.mono hbw.size)⟩
        case measure => simp [intOf]; omega
    · obtain rfl : l = j := by omega
      have HPOS := Lib.hid (run_cars S HGL.out HV.out HR.out)
      have hkk : (((k' : Nat) : Int) == ((k' : Nat) : Int)) = true := by simp
      cases b
      · go_upto_region 15 with fail
        clear hbw
        replace hH9 := hH9.below (Below.refl _ _).drew
        replace hX9 := hX9.below (Below.refl _ _).drew
        replace hA9 := Lib.hid (hA9.out.below (Below.refl _ _).drew)
        replace hA39 := Lib.hid (hA39.out.below (Below.refl _ _).drew)
        replace hB9 := hB9.drew
        refine wp_region_held_drew (S := (fun w' => w'.cell? ⟨H, 0, none⟩ = some (.int .i64 W) ∧ w'.cell? ⟨H, 1, none⟩ = some (.int .i64 D) ∧ w'.cell? ⟨H, 2, none⟩ = some (.slice (some ⟨G, 0, none⟩) m d) ∧ w'.cell? ⟨X, 0, none⟩ = some (.int .i64 W) ∧ w'.cell? ⟨X, 1, none⟩ = some (.int .i64 D) ∧ w'.cell? ⟨X, 2, none⟩ = some (.slice (some ⟨G3, 0, none⟩) m c3))) (by kernel_rfl) ?_ (fun hHeld => ?_)
        · (try dsimp only); exact ⟨hH9.cell 0, hH9.cell 1, hH9.cell 2, hX9.cell 0, hX9.cell 1, hX9.cell 2⟩
        refine wpAnyH_take (i := 0) (v := ?vq7_0_1) (by simp only [List.getElem?_toArray, List.getElem?_cons_zero]; rfl) (by kernel_rfl) (by kernel_rfl) (by kernel_rfl) (by exact fun _ _ _ h => h) (Or.inl ⟨by rfl, ?hq7_0_1⟩) hHeld ?rq7_0_1
        case hq7_0_1 => (intro w hSw; (try dsimp only at hSw); go_simp; (try with_reducible rfl))
        try simp only [put_laws]
        refine wpAnyH_ready (rs := [1]) (by kernel_rfl) (by simp) ?_
        refine AllReadyH.cons (by simp only [List.getElem?_toArray, List.getElem?_cons_succ, List.getElem?_cons_zero]; rfl) (fun K hK => ?_) AllReadyH.nil
        go_simp
        refine (hallValid_any W D (some ⟨G3, 0, none⟩) m c3 _ _ (by omega) hA39.out.ints).mono ?_; rintro e wa ⟨rfl, hba⟩; rw [HOK.out.1]; replace hH9 := hH9.below hba; replace hX9 := hX9.below hba; replace hA9 := Lib.hid (hA9.out.below hba); replace hA39 := Lib.hid (hA39.out.below hba); replace hB9 := below_next hB9 hba; clear hba
        refine hK.out _ _ ?_ (fun hHeld => ?_)
        · (try dsimp only); exact ⟨hH9.cell 0, hH9.cell 1, hH9.cell 2, hX9.cell 0, hX9.cell 1, hX9.cell 2⟩
        clear hK K
        try simp only [put_laws]
        refine wpAnyH_take (i := 2) (v := ?vq7_2_3) (by simp only [List.getElem?_toArray, List.getElem?_cons_succ, List.getElem?_cons_zero]; rfl) (by kernel_rfl) (by kernel_rfl) (by kernel_rfl) (by exact fun _ _ _ h => h) (Or.inl ⟨by rfl, ?hq7_2_3⟩) hHeld ?rq7_2_3
        case hq7_2_3 => (intro w hSw; (try dsimp only at hSw); go_simp; (try with_reducible rfl))
        try simp only [put_laws]
        refine wpAnyH_take (i := 3) (v := ?vq7_3_4) (by simp only [List.getElem?_toArray, List.getElem?_cons_succ, List.getElem?_cons_zero]; rfl) (by kernel_rfl) (by kernel_rfl) (by kernel_rfl) (by exact fun _ _ _ h => h) (Or.inl ⟨by rfl, ?hq7_3_4⟩) hHeld ?rq7_3_4
        case hq7_3_4 => (intro w hSw; (try dsimp only at hSw); go_simp; (try with_reducible rfl))
        try simp only [put_laws]
        refine wpAnyH_take (i := 4) (v := ?vq7_4_5) (by simp only [List.getElem?_toArray, List.getElem?_cons_succ, List.getElem?_cons_zero]; rfl) (by kernel_rfl) (by kernel_rfl) (by kernel_rfl) (by exact fun _ _ _ h => h) (Or.inl ⟨by rfl, ?hq7_4_5⟩) hHeld ?rq7_4_5
        case hq7_4_5 => (intro w hSw; (try dsimp only at hSw); go_simp; (try with_reducible rfl))
        try simp only [put_laws]
        refine wpAnyH_take (i := 5) (v := ?vq7_5_6) (by simp only [List.getElem?_toArray, List.getElem?_cons_succ, List.getElem?_cons_zero]; rfl) (by kernel_rfl) (by kernel_rfl) (by kernel_rfl) (by exact fun _ _ _ h => h) (Or.inl ⟨by rfl, ?hq7_5_6⟩) hHeld ?rq7_5_6
        case hq7_5_6 => (intro w hSw; (try dsimp only at hSw); go_simp; (try with_reducible rfl))
        try simp only [put_laws]
        refine wpAnyH_take (i := 6) (v := undef) (by simp only [List.getElem?_toArray, List.getElem?_cons_succ, List.getElem?_cons_zero]; rfl) (by kernel_rfl) (by kernel_rfl) (by kernel_rfl) (by exact fun _ _ _ h => h) (Or.inr ⟨by rfl, rfl⟩) hHeld ?_
        try simp only [put_laws]
        refine wpAnyH_take (i := 7) (v := undef) (by simp only [List.getElem?_toArray, List.getElem?_cons_succ, List.getElem?_cons_zero]; rfl) (by kernel_rfl) (by kernel_rfl) (by kernel_rfl) (by exact fun _ _ _ h => h) (Or.inr ⟨by rfl, rfl⟩) hHeld ?_
        try simp only [put_laws]
        refine wpAnyH_take (i := 8) (v := undef) (by simp only [List.getElem?_toArray, List.getElem?_cons_succ, List.getElem?_cons_zero]; rfl) (by kernel_rfl) (by kernel_rfl) (by kernel_rfl) (by exact fun _ _ _ h => h) (Or.inr ⟨by rfl, rfl⟩) hHeld ?_
        try simp only [put_laws]
        refine wpAnyH_take (i := 9) (v := undef) (by simp only [List.getElem?_toArray, List.getElem?_cons_succ, List.getElem?_cons_zero]; rfl) (by kernel_rfl) (by kernel_rfl) (by kernel_rfl) (by exact fun _ _ _ h => h) (Or.inr ⟨by rfl, rfl⟩) hHeld ?_
        try simp only [put_laws]
        refine wpAnyH_take (i := 10) (v := undef) (by simp only [List.getElem?_toArray, List.getElem?_cons_succ, List.getElem?_cons_zero]; rfl) (by kernel_rfl) (by kernel_rfl) (by kernel_rfl) (by exact fun _ _ _ h => h) (Or.inr ⟨by rfl, rfl⟩) hHeld ?_
        try simp only [put_laws]
        refine wpAnyH_take (i := 11) (v := undef) (by simp only [List.getElem?_toArray, List.getElem?_cons_succ, List.getElem?_cons_zero]; rfl) (by kernel_rfl) (by kernel_rfl) (by kernel_rfl) (by exact fun _ _ _ h => h) (Or.inr ⟨by rfl, rfl⟩) hHeld ?_
        try simp only [put_laws]
        refine wpAnyH_take (i := 12) (v := undef) (by simp only [List.getElem?_toArray, List.getElem?_cons_succ, List.getElem?_cons_zero]; rfl) (by kernel_rfl) (by kernel_rfl) (by kernel_rfl) (by exact fun _ _ _ h => h) (Or.inr ⟨by rfl, rfl⟩) hHeld ?_
        try simp only [put_laws]
        refine wpAnyH_take (i := 13) (v := undef) (by simp only [List.getElem?_toArray, List.getElem?_cons_succ, List.getElem?_cons_zero]; rfl) (by kernel_rfl) (by kernel_rfl) (by kernel_rfl) (by exact fun _ _ _ h => h) (Or.inr ⟨by rfl, rfl⟩) hHeld ?_
        try simp only [put_laws]
        refine wpAnyH_take (i := 14) (v := ?vq7_14_15) (by simp only [List.getElem?_toArray, List.getElem?_cons_succ, List.getElem?_cons_zero]; rfl) (by kernel_rfl) (by kernel_rfl) (by kernel_rfl) (by exact fun _ _ _ h => h) (Or.inl ⟨by rfl, ?hq7_14_15⟩) hHeld ?rq7_14_15
        case hq7_14_15 => (intro w hSw; (try dsimp only at hSw); go_simp; (try with_reducible rfl))
        try simp only [put_laws]
        refine wpAnyH_take (i := 15) (v := ?vq7_15_16) (by simp only [List.getElem?_toArray, List.getElem?_cons_succ, List.getElem?_cons_zero]; rfl) (by kernel_rfl) (by kernel_rfl) (by kernel_rfl) (by exact fun _ _ _ h => h) (Or.inl ⟨by rfl, ?hq7_15_16⟩) hHeld ?rq7_15_16
        case hq7_15_16 => (intro w hSw; (try dsimp only at hSw); go_simp; (try with_reducible rfl))
        try simp only [put_laws]
        refine wpAnyH_take (i := 16) (v := ?vq7_16_17) (by simp only [List.getElem?_toArray, List.getElem?_cons_succ, List.getElem?_cons_zero]; rfl) (by kernel_rfl) (by kernel_rfl) (by kernel_rfl) (by exact fun _ _ _ h => h) (Or.inl ⟨by rfl, ?hq7_16_17⟩) hHeld ?rq7_16_17
        case hq7_16_17 => (intro w hSw; (try dsimp only at hSw); go_simp; (try with_reducible rfl))
        try simp only [put_laws]
        refine wpAnyH_take (i := 17) (v := ?vq7_17_18) (by simp only [List.getElem?_toArray, List.getElem?_cons_succ, List.getElem?_cons_zero]; rfl) (by kernel_rfl) (by kernel_rfl) (by kernel_rfl) (by exact fun _ _ _ h => h) (Or.inl ⟨by rfl, ?hq7_17_18⟩) hHeld ?rq7_17_18
        case hq7_17_18 => (intro w hSw; (try dsimp only at hSw); go_simp; (try with_reducible rfl))
        try simp only [put_laws]
        refine wpAnyH_take (i := 20) (v := ?vq7_20_19) (by simp only [List.getElem?_toArray, List.getElem?_cons_succ, List.getElem?_cons_zero]; rfl) (by kernel_rfl) (by kernel_rfl) (by kernel_rfl) (by exact fun _ _ _ h => h) (Or.inl ⟨by rfl, ?hq7_20_19⟩) hHeld ?rq7_20_19
        case hq7_20_19 => (intro w hSw; (try dsimp only at hSw); go_simp; (try with_reducible rfl))
        try simp only [put_laws]
        refine wpAnyH_take (i := 23) (v := ?vq7_23_20) (by simp only [List.getElem?_toArray, List.getElem?_cons_succ, List.getElem?_cons_zero]; rfl) (by kernel_rfl) (by kernel_rfl) (by kernel_rfl) (by exact fun _ _ _ h => h) (Or.inl ⟨by rfl, ?hq7_23_20⟩) hHeld ?rq7_23_20
        case hq7_23_20 => (intro w hSw; (try dsimp only at hSw); go_simp; (try with_reducible rfl))
        try simp only [put_laws]
        refine wpAnyH_ready (rs := [18]) (by kernel_rfl) (by simp) ?_
        refine AllReadyH.cons (by simp only [List.getElem?_toArray, List.getElem?_cons_succ, List.getElem?_cons_zero]; rfl) (fun K hK => ?_) AllReadyH.nil
        go_simp
        refine (hallCars_any W D m (some ⟨G3, 0, none⟩) c3 _ _ hA39.out).mono ?_; rintro e wc ⟨CA, cx, cc, rfl, hOc, hba⟩; have hcx : Hid (cx = (posL (stk W D m ids g k')).length) := Lib.hid (by have h1 := hOc.1; simp [srt_len] at h1; exact h1.symm); clear hOc; replace hH9 := hH9.below hba; replace hX9 := hX9.below hba; replace hA9 := Lib.hid (hA9.out.below hba); replace hA39 := Lib.hid (hA39.out.below hba); replace hB9 := below_next hB9 hba; clear hba
        refine hK.out _ _ ?_ (fun hHeld => ?_)
        · (try dsimp only); exact ⟨hH9.cell 0, hH9.cell 1, hH9.cell 2, hX9.cell 0, hX9.cell 1, hX9.cell 2⟩
        clear hK K
        try simp only [put_laws]
        refine wpAnyH_take (i := 19) (v := ?vq7_19_22) (by simp only [List.getElem?_toArray, List.getElem?_cons_succ, List.getElem?_cons_zero]; rfl) (by kernel_rfl) (by kernel_rfl) (by kernel_rfl) (by exact fun _ _ _ h => h) (Or.inl ⟨by rfl, ?hq7_19_22⟩) hHeld ?rq7_19_22
        case hq7_19_22 => (intro w hSw; (try dsimp only at hSw); go_simp; (try with_reducible rfl))
        try simp only [put_laws]
        refine wpAnyH_ready (rs := [21]) (by kernel_rfl) (by simp) ?_
        refine AllReadyH.cons (by simp only [List.getElem?_toArray, List.getElem?_cons_succ, List.getElem?_cons_zero]; rfl) (fun K hK => ?_) AllReadyH.nil
        go_simp
        refine (hallCars_any W D m (some ⟨G, 0, none⟩) d _ _ hA9.out).mono ?_; rintro e wc2 ⟨CA2, ch, cc2, rfl, hOc, hba⟩; have hch : Hid (ch = (posL g).length) := Lib.hid (by have h1 := hOc.1; simp [srt_len] at h1; exact h1.symm); have hcm : ch ≤ m := (by have h1 := hch.out; have h2 : (posL g).length ≤ g.length := List.length_filter_le _ _; have := HGL.out; omega); clear hOc; replace hH9 := hH9.below hba; replace hX9 := hX9.below hba; replace hA9 := Lib.hid (hA9.out.below hba); replace hA39 := Lib.hid (hA39.out.below hba); replace hB9 := below_next hB9 hba; clear hba
        refine hK.out _ _ ?_ (fun hHeld => ?_)
        · (try dsimp only); exact ⟨hH9.cell 0, hH9.cell 1, hH9.cell 2, hX9.cell 0, hX9.cell 1, hX9.cell 2⟩
        clear hK K
        try simp only [put_laws]
        refine wpAnyH_take (i := 22) (v := ?vq7_22_24) (by simp only [List.getElem?_toArray, List.getElem?_cons_succ, List.getElem?_cons_zero]; rfl) (by kernel_rfl) (by kernel_rfl) (by kernel_rfl) (by exact fun _ _ _ h => h) (Or.inl ⟨by rfl, ?hq7_22_24⟩) hHeld ?rq7_22_24
        case hq7_22_24 => (intro w hSw; (try dsimp only at hSw); go_simp; (try with_reducible rfl))
        try simp only [put_laws]
        have hadd : IntKind.i64.wrap ((ch : Int) + (k' : Int)) = (ch : Int) + (k' : Int) := IntWalk.i64_in _ (by omega); have hsum : ((cx : Int) == (ch : Int) + (k' : Int)) = true := (by have h1 := hcx.out; have h2 := hch.out; have h3 := HPOS.out; rw [beq_iff_eq]; omega)
        refine wpAnyH_take (i := 24) (v := ?vq7_24_25) (by simp only [List.getElem?_toArray, List.getElem?_cons_succ, List.getElem?_cons_zero]; rfl) (by kernel_rfl) (by kernel_rfl) (by kernel_rfl) (by exact fun _ _ _ h => h) (Or.inl ⟨by rfl, ?hq7_24_25⟩) hHeld ?rq7_24_25
        case hq7_24_25 => (intro w hSw; (try dsimp only at hSw); go_simp; (try with_reducible rfl))
        try simp only [put_laws]
        refine wpAnyH_take (i := 25) (v := ?vq7_25_26) (by simp only [List.getElem?_toArray, List.getElem?_cons_succ, List.getElem?_cons_zero]; rfl) (by kernel_rfl) (by kernel_rfl) (by kernel_rfl) (by exact fun _ _ _ h => h) (Or.inl ⟨by rfl, ?hq7_25_26⟩) hHeld ?rq7_25_26
        case hq7_25_26 => (intro w hSw; (try dsimp only at hSw); go_simp; (try with_reducible rfl))
        try simp only [put_laws]
        refine wpAnyH_take (i := 26) (v := ?vq7_26_27) (by simp only [List.getElem?_toArray, List.getElem?_cons_succ, List.getElem?_cons_zero]; rfl) (by kernel_rfl) (by kernel_rfl) (by kernel_rfl) (by exact fun _ _ _ h => h) (Or.inl ⟨by rfl, ?hq7_26_27⟩) hHeld ?rq7_26_27
        case hq7_26_27 => (intro w hSw; (try dsimp only at hSw); go_simp; (try with_reducible rfl))
        try simp only [put_laws]
        refine wpAnyH_take (i := 27) (v := ?vq7_27_28) (by simp only [List.getElem?_toArray, List.getElem?_cons_succ, List.getElem?_cons_zero]; rfl) (by kernel_rfl) (by kernel_rfl) (by kernel_rfl) (by exact fun _ _ _ h => h) (Or.inl ⟨by rfl, ?hq7_27_28⟩) hHeld ?rq7_27_28
        case hq7_27_28 => (intro w hSw; (try dsimp only at hSw); go_simp; (try with_reducible rfl))
        try simp only [put_laws]
        refine wpAnyH_done (by kernel_rfl) ?_ _
        all_goals
          clear hHeld
          go_wp2
          go_ret
          exact ⟨rfl, hB9⟩
      · have HKM := Lib.hid (run_good S HGL.out HV.out HR.out (fun q hq => HGK.out rfl q (by rw [HIL.out] at hq; exact hq)))
        go_upto_region 15 with fail
        clear hbw
        replace hH9 := hH9.below (Below.refl _ _).drew
        replace hX9 := hX9.below (Below.refl _ _).drew
        replace hA9 := Lib.hid (hA9.out.below (Below.refl _ _).drew)
        replace hA39 := Lib.hid (hA39.out.below (Below.refl _ _).drew)
        replace hB9 := hB9.drew
        refine wp_region_held_drew (S := (fun w' => w'.cell? ⟨H, 0, none⟩ = some (.int .i64 W) ∧ w'.cell? ⟨H, 1, none⟩ = some (.int .i64 D) ∧ w'.cell? ⟨H, 2, none⟩ = some (.slice (some ⟨G, 0, none⟩) m d) ∧ w'.cell? ⟨X, 0, none⟩ = some (.int .i64 W) ∧ w'.cell? ⟨X, 1, none⟩ = some (.int .i64 D) ∧ w'.cell? ⟨X, 2, none⟩ = some (.slice (some ⟨G3, 0, none⟩) m c3))) (by kernel_rfl) ?_ (fun hHeld => ?_)
        · (try dsimp only); exact ⟨hH9.cell 0, hH9.cell 1, hH9.cell 2, hX9.cell 0, hX9.cell 1, hX9.cell 2⟩
        refine wpAnyH_take (i := 0) (v := ?vq8_0_1) (by simp only [List.getElem?_toArray, List.getElem?_cons_zero]; rfl) (by kernel_rfl) (by kernel_rfl) (by kernel_rfl) (by exact fun _ _ _ h => h) (Or.inl ⟨by rfl, ?hq8_0_1⟩) hHeld ?rq8_0_1
        case hq8_0_1 => (intro w hSw; (try dsimp only at hSw); go_simp; (try with_reducible rfl))
        try simp only [put_laws]
        refine wpAnyH_ready (rs := [1]) (by kernel_rfl) (by simp) ?_
        refine AllReadyH.cons (by simp only [List.getElem?_toArray, List.getElem?_cons_succ, List.getElem?_cons_zero]; rfl) (fun K hK => ?_) AllReadyH.nil
        go_simp
        refine (hallValid_any W D (some ⟨G3, 0, none⟩) m c3 _ _ (by omega) hA39.out.ints).mono ?_; rintro e wa ⟨rfl, hba⟩; rw [HOK.out.1]; replace hH9 := hH9.below hba; replace hX9 := hX9.below hba; replace hA9 := Lib.hid (hA9.out.below hba); replace hA39 := Lib.hid (hA39.out.below hba); replace hB9 := below_next hB9 hba; clear hba
        refine hK.out _ _ ?_ (fun hHeld => ?_)
        · (try dsimp only); exact ⟨hH9.cell 0, hH9.cell 1, hH9.cell 2, hX9.cell 0, hX9.cell 1, hX9.cell 2⟩
        clear hK K
        try simp only [put_laws]
        refine wpAnyH_take (i := 2) (v := ?vq8_2_3) (by simp only [List.getElem?_toArray, List.getElem?_cons_succ, List.getElem?_cons_zero]; rfl) (by kernel_rfl) (by kernel_rfl) (by kernel_rfl) (by exact fun _ _ _ h => h) (Or.inl ⟨by rfl, ?hq8_2_3⟩) hHeld ?rq8_2_3
        case hq8_2_3 => (intro w hSw; (try dsimp only at hSw); go_simp; (try with_reducible rfl))
        try simp only [put_laws]
        refine wpAnyH_take (i := 3) (v := ?vq8_3_4) (by simp only [List.getElem?_toArray, List.getElem?_cons_succ, List.getElem?_cons_zero]; rfl) (by kernel_rfl) (by kernel_rfl) (by kernel_rfl) (by exact fun _ _ _ h => h) (Or.inl ⟨by rfl, ?hq8_3_4⟩) hHeld ?rq8_3_4
        case hq8_3_4 => (intro w hSw; (try dsimp only at hSw); go_simp; (try with_reducible rfl))
        try simp only [put_laws]
        refine wpAnyH_take (i := 4) (v := ?vq8_4_5) (by simp only [List.getElem?_toArray, List.getElem?_cons_succ, List.getElem?_cons_zero]; rfl) (by kernel_rfl) (by kernel_rfl) (by kernel_rfl) (by exact fun _ _ _ h => h) (Or.inl ⟨by rfl, ?hq8_4_5⟩) hHeld ?rq8_4_5
        case hq8_4_5 => (intro w hSw; (try dsimp only at hSw); go_simp; (try with_reducible rfl))
        try simp only [put_laws]
        refine wpAnyH_take (i := 5) (v := ?vq8_5_6) (by simp only [List.getElem?_toArray, List.getElem?_cons_succ, List.getElem?_cons_zero]; rfl) (by kernel_rfl) (by kernel_rfl) (by kernel_rfl) (by exact fun _ _ _ h => h) (Or.inl ⟨by rfl, ?hq8_5_6⟩) hHeld ?rq8_5_6
        case hq8_5_6 => (intro w hSw; (try dsimp only at hSw); go_simp; (try with_reducible rfl))
        try simp only [put_laws]
        refine wpAnyH_take (i := 6) (v := ?vq8_6_7) (by simp only [List.getElem?_toArray, List.getElem?_cons_succ, List.getElem?_cons_zero]; rfl) (by kernel_rfl) (by kernel_rfl) (by kernel_rfl) (by exact fun _ _ _ h => h) (Or.inl ⟨by rfl, ?hq8_6_7⟩) hHeld ?rq8_6_7
        case hq8_6_7 => (intro w hSw; (try dsimp only at hSw); go_simp; (try with_reducible rfl))
        try simp only [put_laws]
        refine wpAnyH_take (i := 7) (v := ?vq8_7_8) (by simp only [List.getElem?_toArray, List.getElem?_cons_succ, List.getElem?_cons_zero]; rfl) (by kernel_rfl) (by kernel_rfl) (by kernel_rfl) (by exact fun _ _ _ h => h) (Or.inl ⟨by rfl, ?hq8_7_8⟩) hHeld ?rq8_7_8
        case hq8_7_8 => (intro w hSw; (try dsimp only at hSw); go_simp; (try with_reducible rfl))
        try simp only [put_laws]
        refine wpAnyH_take (i := 8) (v := ?vq8_8_9) (by simp only [List.getElem?_toArray, List.getElem?_cons_succ, List.getElem?_cons_zero]; rfl) (by kernel_rfl) (by kernel_rfl) (by kernel_rfl) (by exact fun _ _ _ h => h) (Or.inl ⟨by rfl, ?hq8_8_9⟩) hHeld ?rq8_8_9
        case hq8_8_9 => (intro w hSw; (try dsimp only at hSw); go_simp; (try with_reducible rfl))
        try simp only [put_laws]
        refine wpAnyH_take (i := 9) (v := ?vq8_9_10) (by simp only [List.getElem?_toArray, List.getElem?_cons_succ, List.getElem?_cons_zero]; rfl) (by kernel_rfl) (by kernel_rfl) (by kernel_rfl) (by exact fun _ _ _ h => h) (Or.inl ⟨by rfl, ?hq8_9_10⟩) hHeld ?rq8_9_10
        case hq8_9_10 => (intro w hSw; (try dsimp only at hSw); go_simp; (try with_reducible rfl))
        try simp only [put_laws]
        refine wpAnyH_ready (rs := [10]) (by kernel_rfl) (by simp) ?_
        refine AllReadyH.cons (by simp only [List.getElem?_toArray, List.getElem?_cons_succ, List.getElem?_cons_zero]; rfl) (fun K hK => ?_) AllReadyH.nil
        go_simp
        refine (hallFree_any W D m (some ⟨G, 0, none⟩) d g _ hA9.out).mono ?_; rintro e wb ⟨FA, fn, fc, rfl, hOf, hba⟩; have hfn : Hid (fn = g.count 0) := Lib.hid (by have h1 := hOf.1; simp at h1; rw [← h1, freeP_count g m (by rw [HGL.out]; exact Nat.le_refl _), List.take_of_length_le (by rw [HGL.out]; exact Nat.le_refl _)]); have hfm : fn ≤ m := (by have h1 := hOf.1; have := freeP_len g m; simp at h1; omega); clear hOf; replace hH9 := hH9.below hba; replace hX9 := hX9.below hba; replace hA9 := Lib.hid (hA9.out.below hba); replace hA39 := Lib.hid (hA39.out.below hba); replace hB9 := below_next hB9 hba; clear hba; have hmn : ∀ (ts : Array TypeId) (ty : TypeId) (w : World), (Builtin.min_ ts ty #[.int .i64 (l : Int), .int .i64 (fn : Int)]).run Tryd.prog w = .ok (.int .i64 (k' : Int)) w := (fun ts ty w => by have h1 := HKM.out; rw [HIL.out, ← hfn.out] at h1; rw [run_min_int2]; congr 2; split <;> omega)
        refine hK.out _ _ ?_ (fun hHeld => ?_)
        · (try dsimp only); exact ⟨hH9.cell 0, hH9.cell 1, hH9.cell 2, hX9.cell 0, hX9.cell 1, hX9.cell 2⟩
        clear hK K
        try simp only [put_laws]
        refine wpAnyH_take (i := 11) (v := ?vq8_11_12) (by simp only [List.getElem?_toArray, List.getElem?_cons_succ, List.getElem?_cons_zero]; rfl) (by kernel_rfl) (by kernel_rfl) (by kernel_rfl) (by exact fun _ _ _ h => h) (Or.inl ⟨by rfl, ?hq8_11_12⟩) hHeld ?rq8_11_12
        case hq8_11_12 => (intro w hSw; (try dsimp only at hSw); go_simp; (try with_reducible rfl))
        try simp only [put_laws]
        refine wpAnyH_take (i := 12) (v := ?vq8_12_13) (by simp only [List.getElem?_toArray, List.getElem?_cons_succ, List.getElem?_cons_zero]; rfl) (by kernel_rfl) (by kernel_rfl) (by kernel_rfl) (by exact fun _ _ _ h => h) (Or.inl ⟨by rfl, ?hq8_12_13⟩) hHeld ?rq8_12_13
        case hq8_12_13 => (intro w hSw; (try dsimp only at hSw); go_simp; (try with_reducible rfl))
        try simp only [put_laws]
        refine wpAnyH_take (i := 13) (v := ?vq8_13_14) (by simp only [List.getElem?_toArray, List.getElem?_cons_succ, List.getElem?_cons_zero]; rfl) (by kernel_rfl) (by kernel_rfl) (by kernel_rfl) (by exact fun _ _ _ h => h) (Or.inl ⟨by rfl, ?hq8_13_14⟩) hHeld ?rq8_13_14
        case hq8_13_14 => (intro w hSw; (try dsimp only at hSw); go_simp; (try with_reducible rfl))
        try simp only [put_laws]
        refine wpAnyH_take (i := 14) (v := ?vq8_14_15) (by simp only [List.getElem?_toArray, List.getElem?_cons_succ, List.getElem?_cons_zero]; rfl) (by kernel_rfl) (by kernel_rfl) (by kernel_rfl) (by exact fun _ _ _ h => h) (Or.inl ⟨by rfl, ?hq8_14_15⟩) hHeld ?rq8_14_15
        case hq8_14_15 => (intro w hSw; (try dsimp only at hSw); go_simp; (try with_reducible rfl))
        try simp only [put_laws]
        refine wpAnyH_take (i := 15) (v := ?vq8_15_16) (by simp only [List.getElem?_toArray, List.getElem?_cons_succ, List.getElem?_cons_zero]; rfl) (by kernel_rfl) (by kernel_rfl) (by kernel_rfl) (by exact fun _ _ _ h => h) (Or.inl ⟨by rfl, ?hq8_15_16⟩) hHeld ?rq8_15_16
        case hq8_15_16 => (intro w hSw; (try dsimp only at hSw); go_simp; (try with_reducible rfl))
        try simp only [put_laws]
        refine wpAnyH_take (i := 16) (v := ?vq8_16_17) (by simp only [List.getElem?_toArray, List.getElem?_cons_succ, List.getElem?_cons_zero]; rfl) (by kernel_rfl) (by kernel_rfl) (by kernel_rfl) (by exact fun _ _ _ h => h) (Or.inl ⟨by rfl, ?hq8_16_17⟩) hHeld ?rq8_16_17
        case hq8_16_17 => (intro w hSw; (try dsimp only at hSw); go_simp; (try with_reducible rfl))
        try simp only [put_laws]
        refine wpAnyH_take (i := 17) (v := ?vq8_17_18) (by simp only [List.getElem?_toArray, List.getElem?_cons_succ, List.getElem?_cons_zero]; rfl) (by kernel_rfl) (by kernel_rfl) (by kernel_rfl) (by exact fun _ _ _ h => h) (Or.inl ⟨by rfl, ?hq8_17_18⟩) hHeld ?rq8_17_18
        case hq8_17_18 => (intro w hSw; (try dsimp only at hSw); go_simp; (try with_reducible rfl))
        try simp only [put_laws]
        refine wpAnyH_take (i := 20) (v := ?vq8_20_19) (by simp only [List.getElem?_toArray, List.getElem?_cons_succ, List.getElem?_cons_zero]; rfl) (by kernel_rfl) (by kernel_rfl) (by kernel_rfl) (by exact fun _ _ _ h => h) (Or.inl ⟨by rfl, ?hq8_20_19⟩) hHeld ?rq8_20_19
        case hq8_20_19 => (intro w hSw; (try dsimp only at hSw); go_simp; (try with_reducible rfl))
        try simp only [put_laws]
        refine wpAnyH_take (i := 23) (v := ?vq8_23_20) (by simp only [List.getElem?_toArray, List.getElem?_cons_succ, List.getElem?_cons_zero]; rfl) (by kernel_rfl) (by kernel_rfl) (by kernel_rfl) (by exact fun _ _ _ h => h) (Or.inl ⟨by rfl, ?hq8_23_20⟩) hHeld ?rq8_23_20
        case hq8_23_20 => (intro w hSw; (try dsimp only at hSw); go_simp; (try with_reducible rfl))
        try simp only [put_laws]
        refine wpAnyH_ready (rs := [18]) (by kernel_rfl) (by simp) ?_
        refine AllReadyH.cons (by simp only [List.getElem?_toArray, List.getElem?_cons_succ, List.getElem?_cons_zero]; rfl) (fun K hK => ?_) AllReadyH.nil
        go_simp
        refine (hallCars_any W D m (some ⟨G3, 0, none⟩) c3 _ _ hA39.out).mono ?_; rintro e wc ⟨CA, cx, cc, rfl, hOc, hba⟩; have hcx : Hid (cx = (posL (stk W D m ids g k')).length) := Lib.hid (by have h1 := hOc.1; simp [srt_len] at h1; exact h1.symm); clear hOc; replace hH9 := hH9.below hba; replace hX9 := hX9.below hba; replace hA9 := Lib.hid (hA9.out.below hba); replace hA39 := Lib.hid (hA39.out.below hba); replace hB9 := below_next hB9 hba; clear hba
        refine hK.out _ _ ?_ (fun hHeld => ?_)
        · (try dsimp only); exact ⟨hH9.cell 0, hH9.cell 1, hH9.cell 2, hX9.cell 0, hX9.cell 1, hX9.cell 2⟩
        clear hK K
        try simp only [put_laws]
        refine wpAnyH_take (i := 19) (v := ?vq8_19_22) (by simp only [List.getElem?_toArray, List.getElem?_cons_succ, List.getElem?_cons_zero]; rfl) (by kernel_rfl) (by kernel_rfl) (by kernel_rfl) (by exact fun _ _ _ h => h) (Or.inl ⟨by rfl, ?hq8_19_22⟩) hHeld ?rq8_19_22
        case hq8_19_22 => (intro w hSw; (try dsimp only at hSw); go_simp; (try with_reducible rfl))
        try simp only [put_laws]
        refine wpAnyH_ready (rs := [21]) (by kernel_rfl) (by simp) ?_
        refine AllReadyH.cons (by simp only [List.getElem?_toArray, List.getElem?_cons_succ, List.getElem?_cons_zero]; rfl) (fun K hK => ?_) AllReadyH.nil
        go_simp
        refine (hallCars_any W D m (some ⟨G, 0, none⟩) d _ _ hA9.out).mono ?_; rintro e wc2 ⟨CA2, ch, cc2, rfl, hOc, hba⟩; have hch : Hid (ch = (posL g).length) := Lib.hid (by have h1 := hOc.1; simp [srt_len] at h1; exact h1.symm); have hcm : ch ≤ m := (by have h1 := hch.out; have h2 : (posL g).length ≤ g.length := List.length_filter_le _ _; have := HGL.out; omega); clear hOc; replace hH9 := hH9.below hba; replace hX9 := hX9.below hba; replace hA9 := Lib.hid (hA9.out.below hba); replace hA39 := Lib.hid (hA39.out.below hba); replace hB9 := below_next hB9 hba; clear hba
        refine hK.out _ _ ?_ (fun hHeld => ?_)
        · (try dsimp only); exact ⟨hH9.cell 0, hH9.cell 1, hH9.cell 2, hX9.cell 0, hX9.cell 1, hX9.cell 2⟩
        clear hK K
        try simp only [put_laws]
        refine wpAnyH_take (i := 22) (v := ?vq8_22_24) (by simp only [List.getElem?_toArray, List.getElem?_cons_succ, List.getElem?_cons_zero]; rfl) (by kernel_rfl) (by kernel_rfl) (by kernel_rfl) (by exact fun _ _ _ h => h) (Or.inl ⟨by rfl, ?hq8_22_24⟩) hHeld ?rq8_22_24
        case hq8_22_24 => (intro w hSw; (try dsimp only at hSw); go_simp; (try with_reducible rfl))
        try simp only [put_laws]
        have hadd : IntKind.i64.wrap ((ch : Int) + (k' : Int)) = (ch : Int) + (k' : Int) := IntWalk.i64_in _ (by omega); have hsum : ((cx : Int) == (ch : Int) + (k' : Int)) = true := (by have h1 := hcx.out; have h2 := hch.out; have h3 := HPOS.out; rw [beq_iff_eq]; omega)
        refine wpAnyH_take (i := 24) (v := ?vq8_24_25) (by simp only [List.getElem?_toArray, List.getElem?_cons_succ, List.getElem?_cons_zero]; rfl) (by kernel_rfl) (by kernel_rfl) (by kernel_rfl) (by exact fun _ _ _ h => h) (Or.inl ⟨by rfl, ?hq8_24_25⟩) hHeld ?rq8_24_25
        case hq8_24_25 => (intro w hSw; (try dsimp only at hSw); go_simp; (try with_reducible rfl))
        try simp only [put_laws]
        refine wpAnyH_take (i := 25) (v := ?vq8_25_26) (by simp only [List.getElem?_toArray, List.getElem?_cons_succ, List.getElem?_cons_zero]; rfl) (by kernel_rfl) (by kernel_rfl) (by kernel_rfl) (by exact fun _ _ _ h => h) (Or.inl ⟨by rfl, ?hq8_25_26⟩) hHeld ?rq8_25_26
        case hq8_25_26 => (intro w hSw; (try dsimp only at hSw); go_simp; (try with_reducible rfl))
        try simp only [put_laws]
        refine wpAnyH_take (i := 26) (v := ?vq8_26_27) (by simp only [List.getElem?_toArray, List.getElem?_cons_succ, List.getElem?_cons_zero]; rfl) (by kernel_rfl) (by kernel_rfl) (by kernel_rfl) (by exact fun _ _ _ h => h) (Or.inl ⟨by rfl, ?hq8_26_27⟩) hHeld ?rq8_26_27
        case hq8_26_27 => (intro w hSw; (try dsimp only at hSw); go_simp; (try with_reducible rfl))
        try simp only [put_laws]
        refine wpAnyH_take (i := 27) (v := ?vq8_27_28) (by simp only [List.getElem?_toArray, List.getElem?_cons_succ, List.getElem?_cons_zero]; rfl) (by kernel_rfl) (by kernel_rfl) (by kernel_rfl) (by exact fun _ _ _ h => h) (Or.inl ⟨by rfl, ?hq8_27_28⟩) hHeld ?rq8_27_28
        case hq8_27_28 => (intro w hSw; (try dsimp only at hSw); go_simp; (try with_reducible rfl))
        try simp only [put_laws]
        refine wpAnyH_done (by kernel_rfl) ?_ _
        all_goals
          clear hHeld
          go_wp2
          go_ret
          exact ⟨rfl, hB9⟩
end Go.Proofs.YtdebjcempkgeaaaDoor
