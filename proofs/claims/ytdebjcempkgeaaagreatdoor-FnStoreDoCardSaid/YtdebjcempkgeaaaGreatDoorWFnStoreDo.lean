/-
  The law FnStoreDo: the car is at the gate, and fetched again without a slide; the hall has the cars of before then.
-/
import Derived.Test.YtdebjcempkgeaaaGreatDoorDrStoD
import Derived.Test.YtdebjcempkgeaaaGreatDoorStoB
import Derived.Test.YtdebjcempkgeaaaGreatDoorStoQ
import Derived.Test.YtdebjcempkgeaaaGreatDoorFetchB
import Derived.Test.YtdebjcempkgeaaaGreatDoorAlive
namespace Go.Proofs.YtdebjcempkgeaaaGreatDoor
open Go.ChangeShapes Go.WideShapes Go.ChangeAt Go.RowKit

theorem stoP_no {W D n : Nat} {g : List Int} {id : Int} (h : (stoP W D n g id).2 < 0) : stoP W D n g id = (g, -1) := by
  unfold stoP at h ⊢
  cases hn : nearL W (freeN g n) with
  | none => rfl
  | some f =>
    rw [hn] at h
    dsimp only at h ⊢
    by_cases hp : putB W D (hst W f g (dN W f)) id = true
    · rw [if_pos hp] at h; dsimp only at h; omega
    · rw [if_neg hp]
/-- Some answer. -/
def SomeB (w : World) (e : Ending) (w' : World) : Prop := ∃ b : Bool, RV w (.bool b) e w'
set_option maxHeartbeats 2000000 in
theorem sameHall_some (wd dp : Int) (C : Option Addr) (m d : Nat) (ys : List Int) (w : World) (hy : IntsAt w C m ys) :
    Calls Tryz.prog 7 #[.agg #[.int .i64 0, .int .i64 0, .slice none 0 0], .agg #[.int .i64 wd, .int .i64 dp, .slice C m d]] w (SomeB w) := by
  have hB2 : Below w.heap.size w ((w.alloc (.cells #[.int .i64 0, .int .i64 0, .slice none 0 0] 25)).alloc (.cells #[.int .i64 wd, .int .i64 dp, .slice C m d] 25)) := ((Below.refl _ _).alloc (Nat.le_refl _) _).alloc (by simp) _
  have HY := Lib.hid hy
  clear hy
  by_cases h1 : wd = 0
  · subst h1
    by_cases h2 : dp = 0
    · subst h2
      go_enter Tryz.func7, Tryz.ntmps7
      go_wp2_with fail
      refine (sameInts_any none C 0 0 m d [] ys _ (by omega) (SlAt.nil _ _ _) (HY.out.below hB2)).mono ?_; rintro e w3 ⟨rfl, hb3⟩
      generalize decide (([] : List Int) = ys) = b
      cases b
      all_goals
        go_wp2
        go_ret
        exact ⟨_, rfl, below_next hB2 hb3⟩
    · have hd : ((0 : Int) == dp) = false := by rw [beq_eq_false_iff_ne]; omega
      clear h2
      go_enter Tryz.func7, Tryz.ntmps7
      go_wp2
      go_ret
      exact ⟨_, rfl, hB2⟩
  · have hd : ((0 : Int) == wd) = false := by rw [beq_eq_false_iff_ne]; omega
    clear h1
    go_enter Tryz.func7, Tryz.ntmps7
    go_wp2
    go_ret
    exact ⟨_, rfl, hB2⟩

set_option maxRecDepth 100000 in
set_option maxHeartbeats 8000000 in
theorem lawStoreDo (A : Option Addr) (n c : Nat) (bs : List Int) (w : World) (hn : n ≤ c ∧ c ≤ 9223372036854775807) (hb : BytesAt w A n bs) :
    Calls Tryz.prog 3 #[.slice A n c] w (RV w (.bool true)) := by
  obtain ⟨hn1, hn2⟩ := hn
  by_cases hbig : 1048576 < n
  · have hd : decide (1048576 < n) = true := by simpa using hbig
    go_enter Tryz.func3, Tryz.ntmps3
    go_wp2
    go_ret
    exact ⟨rfl, Below.refl _ _⟩
  have hd : decide (1048576 < n) = false := by simpa using hbig
  have HB := Lib.hid hb
  clear hb
  go_enter Tryz.func3, Tryz.ntmps3
  go_wp2_with fail
  refine (drawStoreDo_any w A n c bs ⟨hn1, hn2⟩ HB.out).mono ?_; rintro e w1 ⟨wd, dp, G, m, d, g, id, rfl, hG1, hm4, hm13, hb1⟩
  clear HB hn1 hn2 hbig hd
  have HGL := Lib.hid (show g.length = m by have := hG1.1; simpa using this)
  have hH2 := Whole.new w1 25 [.int .i64 wd, .int .i64 dp, .slice (some ⟨G, 0, none⟩) m d]
  have hbA : Below w1.heap.size w1 (w1.alloc (.cells #[.int .i64 wd, .int .i64 dp, .slice (some ⟨G, 0, none⟩) m d] 25)) := (Below.refl _ _).alloc (Nat.le_refl _) _
  have hG2 := ints_own (own_keep hG1 hbA)
  have hB2 := below_next hb1 hbA
  have hGd := hG2.2
  unfold maxLen at hGd
  obtain ⟨H, HH⟩ : ∃ H, Hid (H = w1.heap.size) := ⟨_, rfl⟩
  rw [← HH.out] at hH2
  go_wp2_with fail
  rw [← HH.out]
  clear HH hG1 hb1 hbA
  generalize w1.alloc (.cells #[.int .i64 wd, .int .i64 dp, .slice (some ⟨G, 0, none⟩) m d] 25) = w2 at *
  obtain ⟨hG2, -⟩ := hG2
  cases hv : hallB wd dp g
  · refine (storeDo_bad wd dp (some ⟨G, 0, none⟩) m d g _ w2 (by omega) hG2 hv).mono ?_; rintro e w3 ⟨rfl, hb3⟩
    have hX := Whole.new w3 25 [.int .i64 0, .int .i64 0, .slice none 0 0]
    have hbX : Below w3.heap.size w3 (w3.alloc (.cells #[.int .i64 0, .int .i64 0, .slice none 0 0] 25)) := (Below.refl _ _).alloc (Nat.le_refl _) _
    have hH4 := (hH2.below hb3).below hbX
    have hG4 := (hG2.below hb3).below hbX
    have hB4 := below_next (below_next hB2 hb3) hbX
    obtain ⟨X, HX⟩ : ∃ X, Hid (X = w3.heap.size) := ⟨_, rfl⟩
    have hHX : H < X := by rw [HX.out]; exact (hH2.below hb3).lt
    rw [← HX.out] at hX
    clear hH2 hG2 hB2 hb3 hbX
    have m0 := hH4.cell 0
    have m1 := hH4.cell 1
    have m2 := hH4.cell 2
    simp only [List.getElem?_cons_zero, List.getElem?_cons_succ] at m0 m1 m2
    go_wp2_with fail
    rw [← HX.out]
    clear HX
    generalize w3.alloc (.cells #[.int .i64 0, .int .i64 0, .slice none 0 0] 25) = w4 at *
    refine (specStoreDo_bad wd dp (some ⟨G, 0, none⟩) m d g _ w4 (by omega) (by omega) hG4 hv).mono ?_; rintro e w5 ⟨rfl, hb5⟩
    have hY := Whole.new w5 25 [.int .i64 0, .int .i64 0, .slice none 0 0]
    have hbY : Below w5.heap.size w5 (w5.alloc (.cells #[.int .i64 0, .int .i64 0, .slice none 0 0] 25)) := (Below.refl _ _).alloc (Nat.le_refl _) _
    have hH6 := (hH4.below hb5).below hbY
    have hX6 := (hX.below hb5).below hbY
    have hG6 := (hG4.below hb5).below hbY
    have hB6 := below_next (below_next hB4 hb5) hbY
    obtain ⟨Y, HY⟩ : ∃ Y, Hid (Y = w5.heap.size) := ⟨_, rfl⟩
    have hXY : X < Y := by rw [HY.out]; exact (hX.below hb5).lt
    rw [← HY.out] at hY
    clear hH4 hX hG4 hB4 hb5 hbY m0 m1 m2
    have x0 := hX6.cell 0
    have x1 := hX6.cell 1
    have x2 := hX6.cell 2
    have y0 := hY.cell 0
    have y1 := hY.cell 1
    have y2 := hY.cell 2
    simp only [List.getElem?_cons_zero, List.getElem?_cons_succ] at x0 x1 x2 y0 y1 y2
    go_wp2_with fail
    rw [← HY.out]
    clear HY
    generalize w5.alloc (.cells #[.int .i64 0, .int .i64 0, .slice none 0 0] 25) = w6 at *
    refine (sameHall_self 0 0 none none 0 0 0 0 [] w6 (by omega) (SlAt.nil _ _ _) (SlAt.nil _ _ _)).mono ?_; rintro e w7 ⟨rfl, hb7⟩
    have hH7 := hH6.below hb7
    have hX7 := hX6.below hb7
    have hG7 := hG6.below hb7
    have hB7 := below_next hB6 hb7
    clear hH6 hX6 hG6 hB6 hb7 hY x0 x1 x2 y0 y1 y2
    have m0 := hH7.cell 0
    have m1 := hH7.cell 1
    have m2 := hH7.cell 2
    have x0 := hX7.cell 0
    have x1 := hX7.cell 1
    have x2 := hX7.cell 2
    simp only [List.getElem?_cons_zero, List.getElem?_cons_succ] at m0 m1 m2 x0 x1 x2
    go_wp2_with fail
    refine (sameHall_some wd dp (some ⟨G, 0, none⟩) m d g w7 hG7).mono ?_; rintro e w8 ⟨b, rfl, hb8⟩
    have hH8 := hH7.below hb8
    have hG8 := hG7.below hb8
    have hB8 := below_next hB7 hb8
    clear hH7 hX7 hG7 hB7 hb8 m0 m1 m2 x0 x1 x2
    cases b
    · have m0 := hH8.cell 0
      have m1 := hH8.cell 1
      have m2 := hH8.cell 2
      simp only [List.getElem?_cons_zero, List.getElem?_cons_succ] at m0 m1 m2
      go_wp2_with fail
      refine (hallValid_any wd dp (some ⟨G, 0, none⟩) m d g w8 (by omega) hG8).mono ?_; rintro e w9 ⟨rfl, hb9⟩
      rw [hv]
      have hB9 := below_next hB8 hb9
      clear hB8 hb9 m0 m1 m2
      go_wp2_with fail
      refine (alive_any w9).mono ?_; rintro e wa ⟨rfl, hba⟩
      have hBa := below_next hB9 hba
      go_wp2
      go_ret
      exact ⟨rfl, hBa⟩
    · go_wp2_with fail
      refine (alive_any w8).mono ?_; rintro e wa ⟨rfl, hba⟩
      have hBa := below_next hB8 hba
      go_wp2
      go_ret
      exact ⟨rfl, hBa⟩
  obtain ⟨W, D, rfl, rfl, S⟩ := Shp.of_hallB hv
  rw [HGL.out] at S
  have hA2 : HallAt w2 W D m (some ⟨G, 0, none⟩) d g := ⟨S, hG2, by omega, hv⟩
  have HV := Lib.hid hv
  clear hv hG2
  obtain ⟨x, hx⟩ : ∃ x, Hid (stoP W D m g id = x) := ⟨_, rfl⟩
  obtain ⟨g', z⟩ := x
  have HZ : Hid (z = (stoP W D m g id).2) := Lib.hid (by rw [hx.out])
  have HG' : Hid (g' = (stoP W D m g id).1) := Lib.hid (by rw [hx.out])
  refine (storeDo_any W D m (some ⟨G, 0, none⟩) d g id w2 hA2).mono ?_; rintro e w3 ⟨G3, c3, rfl, hO3, hb3⟩
  rw [hx.out] at hO3 ⊢
  dsimp only at hO3 ⊢
  have hX := Whole.new w3 25 [.int .i64 W, .int .i64 D, .slice (some ⟨G3, 0, none⟩) m c3]
  have hbX : Below w3.heap.size w3 (w3.alloc (.cells #[.int .i64 W, .int .i64 D, .slice (some ⟨G3, 0, none⟩) m c3] 25)) := (Below.refl _ _).alloc (Nat.le_refl _) _
  have hH4 := (hH2.below hb3).below hbX
  have hA4 := (hA2.below hb3).below hbX
  have hB4 := below_next (below_next hB2 hb3) hbX
  have hO4 := Lib.hid (own_keep hO3 hbX)
  have hB2s := hB2.size
  obtain ⟨X, HX⟩ : ∃ X, Hid (X = w3.heap.size) := ⟨_, rfl⟩
  have hHX : H < X := by rw [HX.out]; exact (hH2.below hb3).lt
  rw [← HX.out] at hX
  clear hH2 hA2 hB2 hb3 hbX hO3
  have m0 := hH4.cell 0
  have m1 := hH4.cell 1
  have m2 := hH4.cell 2
  simp only [List.getElem?_cons_zero, List.getElem?_cons_succ] at m0 m1 m2
  go_wp2_with fail
  rw [← HX.out]
  clear HX
  generalize w3.alloc (.cells #[.int .i64 W, .int .i64 D, .slice (some ⟨G3, 0, none⟩) m c3] 25) = w4 at *
  refine (specStoreDo_any W D m (some ⟨G, 0, none⟩) d g id w4 hA4).mono ?_; rintro e w5 ⟨G5, c5, rfl, hO5, hb5⟩
  rw [hx.out] at hO5 ⊢
  dsimp only at hO5 ⊢
  clear hx
  have hY := Whole.new w5 25 [.int .i64 W, .int .i64 D, .slice (some ⟨G5, 0, none⟩) m c5]
  have hbY : Below w5.heap.size w5 (w5.alloc (.cells #[.int .i64 W, .int .i64 D, .slice (some ⟨G5, 0, none⟩) m c5] 25)) := (Below.refl _ _).alloc (Nat.le_refl _) _
  have hH6 := (hH4.below hb5).below hbY
  have hX6 := (hX.below hb5).below hbY
  have hA6 := (hA4.below hb5).below hbY
  have hO46 := Lib.hid (own_keep (own_keep hO4.out hb5) hbY)
  have hO6 := own_keep hO5 hbY
  have hB6 := below_next (below_next hB4 hb5) hbY
  obtain ⟨Y, HY⟩ : ∃ Y, Hid (Y = w5.heap.size) := ⟨_, rfl⟩
  have hXY : X < Y := by rw [HY.out]; exact (hX.below hb5).lt
  rw [← HY.out] at hY
  clear hH4 hX hA4 hO4 hB4 hb5 hbY hO5 m0 m1 m2
  have x0 := hX6.cell 0
  have x1 := hX6.cell 1
  have x2 := hX6.cell 2
  have y0 := hY.cell 0
  have y1 := hY.cell 1
  have y2 := hY.cell 2
  simp only [List.getElem?_cons_zero, List.getElem?_cons_succ] at x0 x1 x2 y0 y1 y2
  go_wp2_with fail
  rw [← HY.out]
  clear HY
  generalize w5.alloc (.cells #[.int .i64 W, .int .i64 D, .slice (some ⟨G5, 0, none⟩) m c5] 25) = w6 at *
  refine (sameHall_self W D (some ⟨G3, 0, none⟩) (some ⟨G5, 0, none⟩) m c3 m c5 _ w6 (by omega) (ints_own hO46.out).1 (ints_own hO6).1).mono ?_; rintro e w7 ⟨rfl, hb7⟩
  have hH7 := hH6.below hb7
  have hX7 := hX6.below hb7
  have hA7 := hA6.below hb7
  have hO7 := Lib.hid (own_keep hO46.out hb7)
  have hB7 := below_next hB6 hb7
  clear hH6 hX6 hA6 hO46 hB6 hb7 hY hO6 x0 x1 x2 y0 y1 y2
  have m0 := hH7.cell 0
  have m1 := hH7.cell 1
  have m2 := hH7.cell 2
  have x0 := hX7.cell 0
  have x1 := hX7.cell 1
  have x2 := hX7.cell 2
  simp only [List.getElem?_cons_zero, List.getElem?_cons_succ] at m0 m1 m2 x0 x1 x2
  have hzz : (z != z) = false := by simp
  by_cases hz : z < 0
  · have hno := stoP_no (W := W) (D := D) (n := m) (g := g) (id := id) (by rw [← HZ.out]; exact hz)
    have e1 : g' = g := by rw [HG'.out, hno]
    have e2 : z = -1 := by rw [HZ.out, hno]
    clear HG' HZ hno
    subst e1
    subst e2
    go_wp2_with fail
    refine (sameHall_self W D (some ⟨G3, 0, none⟩) (some ⟨G, 0, none⟩) m c3 m d _ w7 (by omega) (ints_own hO7.out).1 hA7.ints).mono ?_; rintro e w8 ⟨rfl, hb8⟩
    have hB8 := below_next hB7 hb8
    clear hB7 hb8 hH7 hX7 hA7 hO7 m0 m1 m2 x0 x1 x2
    go_wp2_with fail
    refine (alive_any w8).mono ?_; rintro e wa ⟨rfl, hba⟩
    have hBa := below_next hB8 hba
    go_wp2
    go_ret
    exact ⟨rfl, hBa⟩
  have hzd : decide (z < 0) = false := by simpa using hz
  have HGT := Lib.hid (stoP_gate (W := W) (D := D) (id := id) S HGL.out HV.out (by rw [← HZ.out]; omega))
  rw [← HG'.out] at HGT
  clear HG' HZ hz
  have hA37 := hallAt_own S HGT.out.ok hO7.out
  go_wp2_with fail
  refine (fetchDo_gate W D m (some ⟨G3, 0, none⟩) c3 g' id w7 hA37 HGT.out.id1 HGT.out.idx).mono ?_; rintro e w8 ⟨G8, c8, rfl, hO8, hb8⟩
  dsimp only at hO8 ⊢
  have hKB := Whole.new w8 25 [.int .i64 W, .int .i64 D, .slice (some ⟨G8, 0, none⟩) m c8]
  have hbK : Below w8.heap.size w8 (w8.alloc (.cells #[.int .i64 W, .int .i64 D, .slice (some ⟨G8, 0, none⟩) m c8] 25)) := (Below.refl _ _).alloc (Nat.le_refl _) _
  have hH9 := (hH7.below hb8).below hbK
  have hX9 := (hX7.below hb8).below hbK
  have hA9 := Lib.hid ((hA7.below hb8).below hbK)
  have hA39 := Lib.hid ((hA37.below hb8).below hbK)
  have hK9 := Lib.hid (hallAt_own S HGT.out.back (own_keep hO8 hbK))
  have hB9 := below_next (below_next hB7 hb8) hbK
  obtain ⟨KB, HK⟩ : ∃ KB, Hid (KB = w8.heap.size) := ⟨_, rfl⟩
  rw [← HK.out] at hKB
  clear hH7 hX7 hA7 hA37 hO7 hB7 hb8 hbK hO8 m0 m1 m2 x0 x1 x2
  go_upto_region 11 with fail
  rw [← HK.out]
  clear HK
  generalize w8.alloc (.cells #[.int .i64 W, .int .i64 D, .slice (some ⟨G8, 0, none⟩) m c8] 25) = w9 at *
  replace hH9 := hH9.below (Below.refl _ _).drew
  replace hX9 := hX9.below (Below.refl _ _).drew
  replace hKB := hKB.below (Below.refl _ _).drew
  replace hA9 := Lib.hid (hA9.out.below (Below.refl _ _).drew)
  replace hA39 := Lib.hid (hA39.out.below (Below.refl _ _).drew)
  replace hK9 := Lib.hid (hK9.out.below (Below.refl _ _).drew)
  replace hB9 := hB9.drew
  refine wp_region_held_drew (S := (fun w' => w'.cell? ⟨H, 0, none⟩ = some (.int .i64 W) ∧ w'.cell? ⟨H, 1, none⟩ = some (.int .i64 D) ∧ w'.cell? ⟨H, 2, none⟩ = some (.slice (some ⟨G, 0, none⟩) m d) ∧ w'.cell? ⟨X, 0, none⟩ = some (.int .i64 W) ∧ w'.cell? ⟨X, 1, none⟩ = some (.int .i64 D) ∧ w'.cell? ⟨X, 2, none⟩ = some (.slice (some ⟨G3, 0, none⟩) m c3) ∧ w'.cell? ⟨KB, 0, none⟩ = some (.int .i64 W) ∧ w'.cell? ⟨KB, 1, none⟩ = some (.int .i64 D) ∧ w'.cell? ⟨KB, 2, none⟩ = some (.slice (some ⟨G8, 0, none⟩) m c8))) (by kernel_rfl) ?_ (fun hHeld => ?_)
  · (try dsimp only); exact ⟨hH9.cell 0, hH9.cell 1, hH9.cell 2, hX9.cell 0, hX9.cell 1, hX9.cell 2, hKB.cell 0, hKB.cell 1, hKB.cell 2⟩
  refine wpAnyH_take (i := 0) (v := ?vq1_0_1) (by simp only [List.getElem?_toArray, List.getElem?_cons_zero]; rfl) (by kernel_rfl) (by kernel_rfl) (by kernel_rfl) (by exact fun _ _ _ h => h) (Or.inl ⟨by rfl, ?hq1_0_1⟩) hHeld ?rq1_0_1
  case hq1_0_1 => (intro w hSw; (try dsimp only at hSw); go_simp; (try with_reducible rfl))
  try simp only [put_laws]
  refine wpAnyH_ready (rs := [1]) (by kernel_rfl) (by simp) ?_
  refine AllReadyH.cons (by simp only [List.getElem?_toArray, List.getElem?_cons_succ, List.getElem?_cons_zero]; rfl) (fun K hK => ?_) AllReadyH.nil
  go_simp
  refine (hallValid_any W D (some ⟨G3, 0, none⟩) m c3 _ _ (by omega) hA39.out.ints).mono ?_; rintro e wa ⟨rfl, hba⟩; rw [HGT.out.ok]; replace hH9 := hH9.below hba; replace hX9 := hX9.below hba; replace hKB := hKB.below hba; replace hA9 := Lib.hid (hA9.out.below hba); replace hA39 := Lib.hid (hA39.out.below hba); replace hK9 := Lib.hid (hK9.out.below hba); replace hB9 := below_next hB9 hba; clear hba
  refine hK.out _ _ ?_ (fun hHeld => ?_)
  · (try dsimp only); exact ⟨hH9.cell 0, hH9.cell 1, hH9.cell 2, hX9.cell 0, hX9.cell 1, hX9.cell 2, hKB.cell 0, hKB.cell 1, hKB.cell 2⟩
  clear hK K
  try simp only [put_laws]
  refine wpAnyH_take (i := 2) (v := ?vq1_2_3) (by simp only [List.getElem?_toArray, List.getElem?_cons_succ, List.getElem?_cons_zero]; rfl) (by kernel_rfl) (by kernel_rfl) (by kernel_rfl) (by exact fun _ _ _ h => h) (Or.inl ⟨by rfl, ?hq1_2_3⟩) hHeld ?rq1_2_3
  case hq1_2_3 => (intro w hSw; (try dsimp only at hSw); go_simp; (try with_reducible rfl))
  try simp only [put_laws]
  refine wpAnyH_take (i := 3) (v := ?vq1_3_4) (by simp only [List.getElem?_toArray, List.getElem?_cons_succ, List.getElem?_cons_zero]; rfl) (by kernel_rfl) (by kernel_rfl) (by kernel_rfl) (by exact fun _ _ _ h => h) (Or.inl ⟨by rfl, ?hq1_3_4⟩) hHeld ?rq1_3_4
  case hq1_3_4 => (intro w hSw; (try dsimp only at hSw); go_simp; (try with_reducible rfl))
  try simp only [put_laws]
  refine wpAnyH_take (i := 4) (v := ?vq1_4_5) (by simp only [List.getElem?_toArray, List.getElem?_cons_succ, List.getElem?_cons_zero]; rfl) (by kernel_rfl) (by kernel_rfl) (by kernel_rfl) (by exact fun _ _ _ h => h) (Or.inl ⟨by rfl, ?hq1_4_5⟩) hHeld ?rq1_4_5
  case hq1_4_5 => (intro w hSw; (try dsimp only at hSw); go_simp; (try with_reducible rfl))
  try simp only [put_laws]
  refine wpAnyH_ready (rs := [5]) (by kernel_rfl) (by simp) ?_
  refine AllReadyH.cons (by simp only [List.getElem?_toArray, List.getElem?_cons_succ, List.getElem?_cons_zero]; rfl) (fun K hK => ?_) AllReadyH.nil
  go_simp
  refine (hallFind_any W D m (some ⟨G3, 0, none⟩) c3 g' id _ hA39.out HGT.out.id1).mono ?_; rintro e wb ⟨rfl, hba⟩; rw [HGT.out.idx]; replace hH9 := hH9.below hba; replace hX9 := hX9.below hba; replace hKB := hKB.below hba; replace hA9 := Lib.hid (hA9.out.below hba); replace hA39 := Lib.hid (hA39.out.below hba); replace hK9 := Lib.hid (hK9.out.below hba); replace hB9 := below_next hB9 hba; clear hba
  refine hK.out _ _ ?_ (fun hHeld => ?_)
  · (try dsimp only); exact ⟨hH9.cell 0, hH9.cell 1, hH9.cell 2, hX9.cell 0, hX9.cell 1, hX9.cell 2, hKB.cell 0, hKB.cell 1, hKB.cell 2⟩
  clear hK K
  try simp only [put_laws]
  refine wpAnyH_take (i := 6) (v := ?vq1_6_7) (by simp only [List.getElem?_toArray, List.getElem?_cons_succ, List.getElem?_cons_zero]; rfl) (by kernel_rfl) (by kernel_rfl) (by kernel_rfl) (by exact fun _ _ _ h => h) (Or.inl ⟨by rfl, ?hq1_6_7⟩) hHeld ?rq1_6_7
  case hq1_6_7 => (intro w hSw; (try dsimp only at hSw); go_simp; (try with_reducible rfl))
  try simp only [put_laws]
  refine wpAnyH_take (i := 7) (v := ?vq1_7_8) (by simp only [List.getElem?_toArray, List.getElem?_cons_succ, List.getElem?_cons_zero]; rfl) (by kernel_rfl) (by kernel_rfl) (by kernel_rfl) (by exact fun _ _ _ h => h) (Or.inl ⟨by rfl, ?hq1_7_8⟩) hHeld ?rq1_7_8
  case hq1_7_8 => (intro w hSw; (try dsimp only at hSw); go_simp; (try with_reducible rfl))
  try simp only [put_laws]
  refine wpAnyH_take (i := 8) (v := ?vq1_8_9) (by simp only [List.getElem?_toArray, List.getElem?_cons_succ, List.getElem?_cons_zero]; rfl) (by kernel_rfl) (by kernel_rfl) (by kernel_rfl) (by exact fun _ _ _ h => h) (Or.inl ⟨by rfl, ?hq1_8_9⟩) hHeld ?rq1_8_9
  case hq1_8_9 => (intro w hSw; (try dsimp only at hSw); go_simp; (try with_reducible rfl))
  try simp only [put_laws]
  refine wpAnyH_take (i := 9) (v := ?vq1_9_10) (by simp only [List.getElem?_toArray, List.getElem?_cons_succ, List.getElem?_cons_zero]; rfl) (by kernel_rfl) (by kernel_rfl) (by kernel_rfl) (by exact fun _ _ _ h => h) (Or.inl ⟨by rfl, ?hq1_9_10⟩) hHeld ?rq1_9_10
  case hq1_9_10 => (intro w hSw; (try dsimp only at hSw); go_simp; (try with_reducible rfl))
  try simp only [put_laws]
  refine wpAnyH_take (i := 10) (v := ?vq1_10_11) (by simp only [List.getElem?_toArray, List.getElem?_cons_succ, List.getElem?_cons_zero]; rfl) (by kernel_rfl) (by kernel_rfl) (by kernel_rfl) (by exact fun _ _ _ h => h) (Or.inl ⟨by rfl, ?hq1_10_11⟩) hHeld ?rq1_10_11
  case hq1_10_11 => (intro w hSw; (try dsimp only at hSw); go_simp; (try with_reducible rfl))
  try simp only [put_laws]
  refine wpAnyH_take (i := 11) (v := ?vq1_11_12) (by simp only [List.getElem?_toArray, List.getElem?_cons_succ, List.getElem?_cons_zero]; rfl) (by kernel_rfl) (by kernel_rfl) (by kernel_rfl) (by exact fun _ _ _ h => h) (Or.inl ⟨by rfl, ?hq1_11_12⟩) hHeld ?rq1_11_12
  case hq1_11_12 => (intro w hSw; (try dsimp only at hSw); go_simp; (try with_reducible rfl))
  try simp only [put_laws]
  refine wpAnyH_take (i := 12) (v := ?vq1_12_13) (by simp only [List.getElem?_toArray, List.getElem?_cons_succ, List.getElem?_cons_zero]; rfl) (by kernel_rfl) (by kernel_rfl) (by kernel_rfl) (by exact fun _ _ _ h => h) (Or.inl ⟨by rfl, ?hq1_12_13⟩) hHeld ?rq1_12_13
  case hq1_12_13 => (intro w hSw; (try dsimp only at hSw); go_simp; (try with_reducible rfl))
  try simp only [put_laws]
  refine wpAnyH_take (i := 13) (v := ?vq1_13_14) (by simp only [List.getElem?_toArray, List.getElem?_cons_succ, List.getElem?_cons_zero]; rfl) (by kernel_rfl) (by kernel_rfl) (by kernel_rfl) (by exact fun _ _ _ h => h) (Or.inl ⟨by rfl, ?hq1_13_14⟩) hHeld ?rq1_13_14
  case hq1_13_14 => (intro w hSw; (try dsimp only at hSw); go_simp; (try with_reducible rfl))
  try simp only [put_laws]
  refine wpAnyH_take (i := 15) (v := ?vq1_15_15) (by simp only [List.getElem?_toArray, List.getElem?_cons_succ, List.getElem?_cons_zero]; rfl) (by kernel_rfl) (by kernel_rfl) (by kernel_rfl) (by exact fun _ _ _ h => h) (Or.inl ⟨by rfl, ?hq1_15_15⟩) hHeld ?rq1_15_15
  case hq1_15_15 => (intro w hSw; (try dsimp only at hSw); go_simp; (try with_reducible rfl))
  try simp only [put_laws]
  refine wpAnyH_ready (rs := [14]) (by kernel_rfl) (by simp) ?_
  refine AllReadyH.cons (by simp only [List.getElem?_toArray, List.getElem?_cons_succ, List.getElem?_cons_zero]; rfl) (fun K hK => ?_) AllReadyH.nil
  go_simp
  refine (hallCars_any W D m (some ⟨G8, 0, none⟩) c8 _ _ hK9.out).mono ?_; rintro e wc ⟨CA, cx, cc, rfl, hOc, hba⟩; rw [HGT.out.cars] at hOc; replace hH9 := hH9.below hba; replace hX9 := hX9.below hba; replace hKB := hKB.below hba; replace hA9 := Lib.hid (hA9.out.below hba); replace hA39 := Lib.hid (hA39.out.below hba); replace hK9 := Lib.hid (hK9.out.below hba); replace hB9 := below_next hB9 hba; clear hba
  refine hK.out _ _ ?_ (fun hHeld => ?_)
  · (try dsimp only); exact ⟨hH9.cell 0, hH9.cell 1, hH9.cell 2, hX9.cell 0, hX9.cell 1, hX9.cell 2, hKB.cell 0, hKB.cell 1, hKB.cell 2⟩
  clear hK K
  try simp only [put_laws]
  refine wpAnyH_ready (rs := [16]) (by kernel_rfl) (by simp) ?_
  refine AllReadyH.cons (by simp only [List.getElem?_toArray, List.getElem?_cons_succ, List.getElem?_cons_zero]; rfl) (fun K hK => ?_) AllReadyH.nil
  go_simp
  refine (hallCars_any W D m (some ⟨G, 0, none⟩) d _ _ hA9.out).mono ?_; rintro e wd ⟨CA2, ch, cc2, rfl, hOh, hba⟩; have hOc2 := own_keep hOc hba; have hcx := (OwnAt.farInts hOc2).cap; have hcx2 : cx ≤ 9223372036854775807 := (by unfold maxLen at hcx; omega); clear hcx; replace hH9 := hH9.below hba; replace hX9 := hX9.below hba; replace hKB := hKB.below hba; replace hA9 := Lib.hid (hA9.out.below hba); replace hA39 := Lib.hid (hA39.out.below hba); replace hK9 := Lib.hid (hK9.out.below hba); replace hB9 := below_next hB9 hba; clear hba hOc
  refine hK.out _ _ ?_ (fun hHeld => ?_)
  · (try dsimp only); exact ⟨hH9.cell 0, hH9.cell 1, hH9.cell 2, hX9.cell 0, hX9.cell 1, hX9.cell 2, hKB.cell 0, hKB.cell 1, hKB.cell 2⟩
  clear hK K
  try simp only [put_laws]
  refine wpAnyH_ready (rs := [17]) (by kernel_rfl) (by simp) ?_
  refine AllReadyH.cons (by simp only [List.getElem?_toArray, List.getElem?_cons_succ, List.getElem?_cons_zero]; rfl) (fun K hK => ?_) AllReadyH.nil
  go_simp
  refine (sameInts_self CA CA2 cx cc ch cc2 _ _ hcx2 (OwnAt.farInts hOc2).ints (OwnAt.farInts hOh).ints).mono ?_; rintro e we ⟨rfl, hba⟩; replace hH9 := hH9.below hba; replace hX9 := hX9.below hba; replace hKB := hKB.below hba; replace hA9 := Lib.hid (hA9.out.below hba); replace hA39 := Lib.hid (hA39.out.below hba); replace hK9 := Lib.hid (hK9.out.below hba); replace hB9 := below_next hB9 hba; clear hba
  refine hK.out _ _ ?_ (fun hHeld => ?_)
  · (try dsimp only); exact ⟨hH9.cell 0, hH9.cell 1, hH9.cell 2, hX9.cell 0, hX9.cell 1, hX9.cell 2, hKB.cell 0, hKB.cell 1, hKB.cell 2⟩
  clear hK K
  try simp only [put_laws]
  refine wpAnyH_take (i := 18) (v := ?vq1_18_19) (by simp only [List.getElem?_toArray, List.getElem?_cons_succ, List.getElem?_cons_zero]; rfl) (by kernel_rfl) (by kernel_rfl) (by kernel_rfl) (by exact fun _ _ _ h => h) (Or.inl ⟨by rfl, ?hq1_18_19⟩) hHeld ?rq1_18_19
  case hq1_18_19 => (intro w hSw; (try dsimp only at hSw); go_simp; (try with_reducible rfl))
  try simp only [put_laws]
  refine wpAnyH_take (i := 19) (v := ?vq1_19_20) (by simp only [List.getElem?_toArray, List.getElem?_cons_succ, List.getElem?_cons_zero]; rfl) (by kernel_rfl) (by kernel_rfl) (by kernel_rfl) (by exact fun _ _ _ h => h) (Or.inl ⟨by rfl, ?hq1_19_20⟩) hHeld ?rq1_19_20
  case hq1_19_20 => (intro w hSw; (try dsimp only at hSw); go_simp; (try with_reducible rfl))
  try simp only [put_laws]
  refine wpAnyH_done (by kernel_rfl) ?_ _
  clear hHeld
  go_wp2
  go_ret
  exact ⟨rfl, hB9⟩
end Go.Proofs.YtdebjcempkgeaaaGreatDoor
