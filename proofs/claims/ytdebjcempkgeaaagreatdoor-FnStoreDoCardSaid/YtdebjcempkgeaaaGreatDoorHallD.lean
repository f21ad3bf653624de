/-
  Valid halls in memory: HallFree and copies of both texts.
-/
import Derived.Test.YtdebjcempkgeaaaGreatDoorHallC
import Derived.Test.YtdebjcempkgeaaaGreatDoorMade
import Derived.Lib.SliceRun
import Derived.Test.YtdebjcempkgeaaaGreatDoorWpI
import Derived.Deep.RegionWith
namespace Go.Proofs.YtdebjcempkgeaaaGreatDoor
open Go.ChangeShapes Go.WideShapes Go.ChangeAt Go.RowKit

/-- The free cells before k. -/
def freeP (g : List Int) (k : Nat) : List Int := ((List.range k).filter fun j => g[j]? == some 0).map fun (j : Nat) => (j : Int)
def freeH (b : Bool) (g : List Int) (n : Nat) : List Int := if b then freeP g n else []
theorem freeP_len (g : List Int) (k : Nat) : (freeP g k).length ≤ k := by
  unfold freeP; rw [List.length_map]; exact Nat.le_trans (List.length_filter_le _ _) (by simp)
theorem freeP_yes {g : List Int} {k : Nat} {z : Int} (hz : Hid (g[k]? = some z)) (h : z = 0) : freeP g (k + 1) = freeP g k ++ [(k : Int)] := by
  have hz' := hz.out
  subst h
  unfold freeP; rw [List.range_succ, List.filter_append]; simp [hz']
theorem freeP_no {g : List Int} {k : Nat} {z : Int} (hz : Hid (g[k]? = some z)) (h : z ≠ 0) : freeP g (k + 1) = freeP g k := by
  have hz' := hz.out
  unfold freeP; rw [List.range_succ, List.filter_append]; simp [hz', h]

set_option maxRecDepth 100000 in
set_option maxHeartbeats 4000000 in
theorem hallFree_any (W D n : Nat) (A : Option Addr) (c : Nat) (g : List Int) (w : World) (h : HallAt w W D n A c g) :
    Calls Tryz.prog 33 #[.agg #[.int .i64 W, .int .i64 D, .slice A n c]] w (LI w (freeP g n)) := by
  have hn := h.shp.n12
  have hW := Whole.new w 25 [.int .i64 W, .int .i64 D, .slice A n c]
  have hB1 : Below w.heap.size w (w.alloc (.cells #[.int .i64 W, .int .i64 D, .slice A n c] 25)) := (Below.refl _ _).alloc (Nat.le_refl _) _
  have h1 := h.below hB1
  have H := Lib.hid h
  clear h
  go_enter Tryz.func33, Tryz.ntmps33
  go_wp2_with fail
  refine (hallValid_any W D A n c g _ (by omega) h1.ints).mono ?_; rintro e w3 ⟨rfl, hb3⟩
  rw [H.out.ok]
  have hW3 := hW.below hb3
  have hB3 := below_next hB1 hb3
  have hQ3 := hW3.lt
  clear hW hB1 hb3 h1
  have q2 := hW3.cell 2
  simp only [List.getElem?_cons_zero, List.getElem?_cons_succ] at q2
  go_wp2
  go_loopw [3, 12] (fun v i wr => ∃ (k m cc : Nat) (B : Option Addr), k ≤ n ∧ i = .int .i64 k ∧ v = .slice B m cc ∧ m ≤ k ∧ wr.ownsRow w.heap.size 3 1 (.slice B m cc) m ((freeP g k).map (Value.int .i64)) ∧ Below w.heap.size w wr) (fun _ i _ => n - (intOf i).toNat)
  case atStart => exact ⟨0, 0, 0, none, Nat.zero_le _, rfl, rfl, Nat.le_refl _, ownNil _ _ _ _, hB3⟩
  case round =>
    obtain ⟨k, m, cc, B, hk, rfl, rfl, hmk, hO, hbw⟩ := hrel
    clear q2 hW3 hB3
    by_cases hlt : k < n
    · obtain ⟨z, b, off, HZ, rfl, hb, hc⟩ := (H.out.below hbw).ints.get hlt
      by_cases hz : z = 0
      · have HY := Lib.hid (freeP_yes HZ hz)
        subst hz
        go_wp2_with (at_builtin; (refine wpList_more (base := w.heap.size) rfl (.tmp 19) (.tmp 21) rfl hbw.size hO (k : Int) rfl rfl (by omega) ?_; intro g' c' w7 hO7 hb7))
        go_roundw
        case rel => exact ⟨k + 1, m + 1, c', _, by omega, by go_num, rfl, by omega, by rw [HY.out]; exact hO7, hbw.trans hb7⟩
        case measure => simp [intOf]; omega
      · have HN := Lib.hid (freeP_no HZ hz)
        have hd : (z == 0) = false := by simpa using hz
        clear hz
        go_wp2
        go_roundw
        case rel => exact ⟨k + 1, m, cc, B, by omega, by go_num, rfl, by omega, by rw [HN.out]; exact hO, hbw⟩
        case measure => simp [intOf]; omega
    · obtain rfl : k = n := by omega
      go_wp2
      go_ret
      exact ⟨B, m, cc, rfl, hO, hbw⟩

set_option maxRecDepth 100000 in
set_option maxHeartbeats 4000000 in
theorem specHallFree_any (wd dp : Int) (n : Nat) (A : Option Addr) (c : Nat) (g : List Int) (w : World) (hn : n ≤ 9223372036854775807) (hnc : n ≤ c) (hg : IntsAt w A n g) (b : Bool) (hb : hallB wd dp g = b) :
    Calls Tryz.prog 31 #[.agg #[.int .i64 wd, .int .i64 dp, .slice A n c]] w (LI w (freeH b g n)) := by
  have hbs : ∀ w : World, (Instr.buildSlice 23 0 #[]).run Tryz.prog w = .ok (.slice (some ⟨w.heap.size, 0, none⟩) 0 0) (w.alloc (.cells #[] 3)) := fun _ => by kernel_rfl
  have hW := Whole.new w 25 [.int .i64 wd, .int .i64 dp, .slice A n c]
  have hB1 : Below w.heap.size w (w.alloc (.cells #[.int .i64 wd, .int .i64 dp, .slice A n c] 25)) := (Below.refl _ _).alloc (Nat.le_refl _) _
  have hsz : (w.alloc (.cells #[.int .i64 wd, .int .i64 dp, .slice A n c] 25)).heap.size = w.heap.size + 1 := by simp
  have hO1 := own0 (base := w.heap.size + 1) (w1 := w.alloc (.cells #[.int .i64 wd, .int .i64 dp, .slice A n c] 25)) (by omega)
  have hW2 := hW.alloc (.cells #[] 3)
  have hB2 := hB1.alloc hB1.size (.cells #[] 3)
  rw [hsz] at hO1
  have HB := Lib.hid hb
  have HG := Lib.hid hg
  have HL := Lib.hid hg.len
  clear hb hg
  obtain ⟨Q, HQ⟩ : ∃ Q, Hid (Q = w.heap.size) := ⟨_, rfl⟩
  go_enter Tryz.func31, Tryz.ntmps31
  go_wp2_with fail
  clear hbs
  rw [← HQ.out] at hW2 hO1 ⊢
  clear hW hB1 hsz
  generalize (w.alloc (.cells #[.int .i64 wd, .int .i64 dp, .slice A n c] 25)).alloc (.cells #[] 3) = w3 at *
  refine (specHallValid_any wd dp A n c g _ hn hnc (HG.out.below hB2)).mono ?_; rintro e w4 ⟨rfl, hb4⟩
  rw [HB.out]
  have hW4 := hW2.below hb4
  have hB4 := below_next hB2 hb4
  have hO4 := own_keep hO1 hb4
  clear hW2 hB2 hO1 hb4
  cases b
  · go_wp2
    go_ret
    exact ⟨_, 0, 0, rfl, Joins.ownsRow_le hO4 (by rw [HQ.out]; omega), hB4⟩
  have hn12 : n ≤ 12 := by
    obtain ⟨W, D, -, -, S⟩ := Shp.of_hallB HB.out
    have := S.n12; have := HL.out; omega
  go_wp2
  go_loopw [3, 4] (fun v i wr => ∃ (k m cc : Nat) (B : Option Addr), k ≤ n ∧ i = .int .i64 k ∧ v = .slice B m cc ∧ m ≤ k ∧ wr.ownsRow (Q + 1) 3 1 (.slice B m cc) m ((freeP g k).map (Value.int .i64)) ∧ Whole wr Q 25 [.int .i64 wd, .int .i64 dp, .slice A n c] ∧ Below w.heap.size w wr) (fun _ i _ => n - (intOf i).toNat)
  case atStart => exact ⟨0, 0, 0, _, Nat.zero_le _, rfl, rfl, Nat.le_refl _, hO4, hW4, hB4⟩
  case round =>
    obtain ⟨k, m, cc, B, hk, rfl, rfl, hmk, hO, hWr, hbw⟩ := hrel
    clear hW4 hB4 hO4
    have q2 := hWr.cell 2
    simp only [List.getElem?_cons_zero, List.getElem?_cons_succ] at q2
    by_cases hlt : k < n
    · obtain ⟨z, b, off, HZ, rfl, hb, hc⟩ := (HG.out.below hbw).get hlt
      by_cases hz : z = 0
      · have HY := Lib.hid (freeP_yes HZ hz)
        subst hz
        go_wp2_with (at_builtin; (refine wpList_more (base := Q + 1) rfl (.tmp 23) (.tmp 25) rfl (by have := hWr.lt; omega) hO (k : Int) rfl rfl (by omega) ?_; intro g' c' w7 hO7 hb7))
        go_roundw
        case rel => exact ⟨k + 1, m + 1, c', _, by omega, by go_num, rfl, by omega, by rw [HY.out]; exact hO7, hWr.belowN hb7 (by omega), hbw.trans (hb7.mono (by rw [HQ.out]; omega))⟩
        case measure => simp [intOf]; omega
      · have HN := Lib.hid (freeP_no HZ hz)
        have hd : (z == 0) = false := by simpa using hz
        clear hz
        go_wp2
        go_roundw
        case rel => exact ⟨k + 1, m, cc, B, by omega, by go_num, rfl, by omega, by rw [HN.out]; exact hO, hWr, hbw⟩
        case measure => simp [intOf]; omega
    · obtain rfl : k = n := by omega
      go_wp2
      go_ret
      exact ⟨B, m, cc, rfl, Joins.ownsRow_le hO (by rw [HQ.out]; omega), hbw⟩
/-- The call answers a hall whose cells it has made itself. -/
def HRes (w : World) (W D : Int) (n : Nat) (g : List Int) (e : Ending) (w' : World) : Prop :=
  ∃ G c : Nat, e = .returned (.agg #[.int .i64 W, .int .i64 D, .slice (some ⟨G, 0, none⟩) n c]) ∧ w'.ownsRow w.heap.size 3 1 (.slice (some ⟨G, 0, none⟩) n c) n (g.map (Value.int .i64)) ∧ Below w.heap.size w w'
theorem HallAt.some {w : World} {W D n c : Nat} {A : Option Addr} {g : List Int} (h : HallAt w W D n A c g) : ∃ b off, A = some ⟨b, off, none⟩ := by
  have hn := h.shp.n12
  obtain ⟨z, b, off, HZ, rfl, _⟩ := h.ints.get (k := 0) (by omega)
  exact ⟨b, off, rfl⟩
theorem own_form {w : World} {base n : Nat} {v : Value} {xs : List Int} (h : w.ownsRow base 3 1 v n (xs.map (Value.int .i64))) (hn : 1 ≤ n) : ∃ G d : Nat, v = .slice (some ⟨G, 0, none⟩) n d := by
  obtain ⟨A, d, rfl, -, -⟩ := (own_ints h).form
  obtain ⟨G, rfl⟩ := own_block h hn
  exact ⟨G, d, rfl⟩
theorem own_off {w : World} {base g n c sz : Nat} {e : TypeId} {vs : List Value} (h : w.ownsRow base e sz (.slice (some ⟨g, 0, none⟩) n c) n vs) {p : Addr} (hp : g ≠ p.block) (v : Value) :
    (w.setCell p v).ownsRow base e sz (.slice (some ⟨g, 0, none⟩) n c) n vs := by
  refine ⟨h.1, ?_⟩
  rcases h.2 with ⟨hv, _⟩ | ⟨g', cap, cur, hv, hg, hcur, h1⟩
  · cases hv
  injection hv with e1 _ e2; injection e1 with e1; injection e1 with e1; subst e1; subst e2
  exact .inr ⟨g, c, cur, rfl, hg, (Below.heap_setCell w p v g hp).trans hcur, h1⟩
set_option maxHeartbeats 2000000 in
theorem cloneF_any (b off n c : Nat) (xs : List Int) (w : World) (h1 : 1 ≤ n) (hn : n ≤ 1048576) (hx : IntsAt w (some ⟨b, off, none⟩) n xs) :
    Calls Tryz.prog 36 #[.slice (some ⟨b, off, none⟩) n c] w fun e w' => ∃ G d : Nat, e = .returned (.slice (some ⟨G, 0, none⟩) n d) ∧ w'.ownsRow w.heap.size 3 1 (.slice (some ⟨G, 0, none⟩) n d) n (xs.map (Value.int .i64)) ∧ Below w.heap.size w w' := by
  have hbs : ∀ w : World, (Instr.buildSlice 23 0 #[]).run Tryz.prog w = .ok (.slice (some ⟨w.heap.size, 0, none⟩) 0 0) (w.alloc (.cells #[] 3)) := fun _ => by kernel_rfl
  have q : ∀ (w : World) (a : Option Addr) (n c n' c' : Nat), (binOp .eql 23 (.slice a n c) (.slice none n' c')).run Tryz.prog w = .ok (.bool a.isNone) w := fun w a n c n' c' => Lib.run_eql_slice_nil w _ _ a n c n' c' Tryz.underlying23
  go_enter Tryz.func36, Tryz.ntmps36
  go_wp2_with (at_builtin; refine wpList_copyF rfl (.tmp 5) (.tmp 6) rfl hx rfl rfl hn ?_; intro v5 w5 hown5 hb5)
  obtain ⟨G, d, rfl⟩ := own_form hown5 h1
  go_ret
  exact ⟨_, _, rfl, hown5, hb5⟩
set_option maxRecDepth 100000 in
set_option maxHeartbeats 4000000 in
theorem copyHall_any (W D n : Nat) (A : Option Addr) (c : Nat) (g : List Int) (w : World) (h : HallAt w W D n A c g) :
    Calls Tryz.prog 18 #[.agg #[.int .i64 W, .int .i64 D, .slice A n c]] w (HRes w W D n g) := by
  have hn := h.shp.n12
  obtain ⟨b, off, rfl⟩ := h.some
  have H := Lib.hid h
  clear h
  have hX1 := Whole.new w 25 [.int .i64 W, .int .i64 D, .slice (some ⟨b, off, none⟩) n c]
  have hX2 := hX1.alloc (.cells #[.int .i64 0, .int .i64 0, .slice none 0 0] 25)
  have hY2 : Whole ((w.alloc (.cells #[.int .i64 W, .int .i64 D, .slice (some ⟨b, off, none⟩) n c] 25)).alloc (.cells #[.int .i64 0, .int .i64 0, .slice none 0 0] 25)) (w.heap.size + 1) 25 [.int .i64 0, .int .i64 0, .slice none 0 0] := by
    have := Whole.new (w.alloc (.cells #[.int .i64 W, .int .i64 D, .slice (some ⟨b, off, none⟩) n c] 25)) 25 [.int .i64 0, .int .i64 0, .slice none 0 0]
    simpa using this
  have hB2 : Below w.heap.size w ((w.alloc (.cells #[.int .i64 W, .int .i64 D, .slice (some ⟨b, off, none⟩) n c] 25)).alloc (.cells #[.int .i64 0, .int .i64 0, .slice none 0 0] 25)) := ((Below.refl _ _).alloc (Nat.le_refl _) _).alloc (by simp) _
  go_enter Tryz.func18, Tryz.ntmps18
  go_wp2
  generalize (w.alloc (.cells #[.int .i64 W, .int .i64 D, .slice (some ⟨b, off, none⟩) n c] 25)).alloc (.cells #[.int .i64 0, .int .i64 0, .slice none 0 0] 25) = w2 at *
  clear hX1
  obtain ⟨Q, HQ⟩ : ∃ Q, Hid (Q = w.heap.size) := ⟨_, rfl⟩
  have hQw : w.heap.size ≤ Q := Nat.le_of_eq HQ.out.symm
  rw [← HQ.out] at hX2 hY2 ⊢
  have x0 : w2.cell? ⟨Q, 0, none⟩ = some (.int .i64 W) := hX2.cell 0
  have x1 : w2.cell? ⟨Q, 1, none⟩ = some (.int .i64 D) := hX2.cell 1
  have x2 : w2.cell? ⟨Q, 2, none⟩ = some (.slice (some ⟨b, off, none⟩) n c) := hX2.cell 2
  have HX := Lib.hid hX2
  clear hX2
  have hW2s : w.heap.size ≤ w2.heap.size := hB2.size
  refine wp_region_held_drew (S := (fun w' => w'.cell? ⟨Q, 0, none⟩ = some (.int .i64 W) ∧ w'.cell? ⟨Q, 1, none⟩ = some (.int .i64 D) ∧ w'.cell? ⟨Q, 2, none⟩ = some (.slice (some ⟨b, off, none⟩) n c))) (by kernel_rfl) ?_ (fun hHeld => ?_)
  · (try dsimp only); (first | exact ⟨x0, x1, x2⟩ | exact ⟨hX6.cell 0, hX6.cell 1, hX6.cell 2⟩ | exact ⟨hX9.cell 0, hX9.cell 1, hX9.cell 2⟩)
  refine wpAnyH_take (i := 0) (v := ?vq1_0_1) (by simp only [List.getElem?_toArray, List.getElem?_cons_zero]; rfl) (by kernel_rfl) (by kernel_rfl) (by kernel_rfl) (by exact fun _ _ _ h => h) (Or.inl ⟨by rfl, ?hq1_0_1⟩) hHeld ?rq1_0_1
  case hq1_0_1 => (intro w hSw; (try dsimp only at hSw); go_simp; (try with_reducible rfl))
  try simp only [put_laws]
  refine wpAnyH_take (i := 1) (v := ?vq1_1_2) (by simp only [List.getElem?_toArray, List.getElem?_cons_succ, List.getElem?_cons_zero]; rfl) (by kernel_rfl) (by kernel_rfl) (by kernel_rfl) (by exact fun _ _ _ h => h) (Or.inl ⟨by rfl, ?hq1_1_2⟩) hHeld ?rq1_1_2
  case hq1_1_2 => (intro w hSw; (try dsimp only at hSw); go_simp; (try with_reducible rfl))
  try simp only [put_laws]
  refine wpAnyH_take (i := 2) (v := ?vq1_2_3) (by simp only [List.getElem?_toArray, List.getElem?_cons_succ, List.getElem?_cons_zero]; rfl) (by kernel_rfl) (by kernel_rfl) (by kernel_rfl) (by exact fun _ _ _ h => h) (Or.inl ⟨by rfl, ?hq1_2_3⟩) hHeld ?rq1_2_3
  case hq1_2_3 => (intro w hSw; (try dsimp only at hSw); go_simp; (try with_reducible rfl))
  try simp only [put_laws]
  refine wpAnyH_take (i := 3) (v := ?vq1_3_4) (by simp only [List.getElem?_toArray, List.getElem?_cons_succ, List.getElem?_cons_zero]; rfl) (by kernel_rfl) (by kernel_rfl) (by kernel_rfl) (by exact fun _ _ _ h => h) (Or.inl ⟨by rfl, ?hq1_3_4⟩) hHeld ?rq1_3_4
  case hq1_3_4 => (intro w hSw; (try dsimp only at hSw); go_simp; (try with_reducible rfl))
  try simp only [put_laws]
  refine wpAnyH_take (i := 4) (v := ?vq1_4_5) (by simp only [List.getElem?_toArray, List.getElem?_cons_succ, List.getElem?_cons_zero]; rfl) (by kernel_rfl) (by kernel_rfl) (by kernel_rfl) (by exact fun _ _ _ h => h) (Or.inl ⟨by rfl, ?hq1_4_5⟩) hHeld ?rq1_4_5
  case hq1_4_5 => (intro w hSw; (try dsimp only at hSw); go_simp; (try with_reducible rfl))
  try simp only [put_laws]
  refine wpAnyH_take (i := 5) (v := ?vq1_5_6) (by simp only [List.getElem?_toArray, List.getElem?_cons_succ, List.getElem?_cons_zero]; rfl) (by kernel_rfl) (by kernel_rfl) (by kernel_rfl) (by exact fun _ _ _ h => h) (Or.inl ⟨by rfl, ?hq1_5_6⟩) hHeld ?rq1_5_6
  case hq1_5_6 => (intro w hSw; (try dsimp only at hSw); go_simp; (try with_reducible rfl))
  try simp only [put_laws]
  refine wpAnyH_ready (rs := [6]) (by kernel_rfl) (by simp) ?_
  refine AllReadyH.cons (by simp only [List.getElem?_toArray, List.getElem?_cons_succ, List.getElem?_cons_zero]; rfl) (fun K hK => ?_) AllReadyH.nil
  go_simp
  (refine (cloneF_any b off n c g _ (by omega) (by omega) (H.out.ints.below hB2.drew)).mono ?_; rintro e w6 ⟨G, d, rfl, hO6, hb6⟩; have hX6 := (Whole.drew HX.out).below hb6; have hY6 := (Whole.drew hY2).below hb6; have hB6 := below_next hB2.drew hb6; have hl6 := hY2.lt; have hGQ : G ≠ Q + 1 := (by have h1 := (hO6.lt G rfl).1; simp at h1; omega); have y0 : w6.cell? ⟨Q + 1, 0, none⟩ = some (.int .i64 0) := hY6.cell 0; have y1 : w6.cell? ⟨Q + 1, 1, none⟩ = some (.int .i64 0) := hY6.cell 1; have y2 : w6.cell? ⟨Q + 1, 2, none⟩ = some (.slice none 0 0) := hY6.cell 2; have z0 := hY6.free 0; have z1 := hY6.free 1; have z2 := hY6.free 2; have hX9 := ((hX6.far (p := ⟨Q + 1, 0, none⟩) (by show Q ≠ Q + 1; omega) (.int .i64 W)).far (p := ⟨Q + 1, 1, none⟩) (by show Q ≠ Q + 1; omega) (.int .i64 D)).far (p := ⟨Q + 1, 2, none⟩) (by show Q ≠ Q + 1; omega) (.slice (some ⟨G, 0, none⟩) n d))
  refine hK.out _ _ ?_ (fun hHeld => ?_)
  · (try dsimp only); (first | exact ⟨x0, x1, x2⟩ | exact ⟨hX6.cell 0, hX6.cell 1, hX6.cell 2⟩ | exact ⟨hX9.cell 0, hX9.cell 1, hX9.cell 2⟩)
  clear hK K
  try simp only [put_laws]
  refine wpAnyH_take (i := 7) (v := ?vq1_7_8) (by simp only [List.getElem?_toArray, List.getElem?_cons_succ, List.getElem?_cons_zero]; rfl) (by kernel_rfl) (by kernel_rfl) (by kernel_rfl) (by exact fun _ _ _ h => h) (Or.inl ⟨by rfl, ?hq1_7_8⟩) hHeld ?rq1_7_8
  case hq1_7_8 => (intro w hSw; (try dsimp only at hSw); go_simp; (try with_reducible rfl))
  try simp only [put_laws]
  refine wpAnyH_ready (rs := [8]) (by kernel_rfl) (by simp) ?_
  refine AllReadyH.cons (by simp only [List.getElem?_toArray, List.getElem?_cons_succ, List.getElem?_cons_zero]; rfl) (fun K hK => ?_) AllReadyH.nil
  go_simp
  skip
  refine hK.out _ _ ?_ (fun hHeld => ?_)
  · (try dsimp only); (first | exact ⟨x0, x1, x2⟩ | exact ⟨hX6.cell 0, hX6.cell 1, hX6.cell 2⟩ | exact ⟨hX9.cell 0, hX9.cell 1, hX9.cell 2⟩)
  clear hK K
  try simp only [put_laws]
  refine wpAnyH_done (by kernel_rfl) ?_ _
  have hY9 := ((hY6.set_ 0 (.int .i64 W)).set_ 1 (.int .i64 D)).set_ 2 (.slice (some ⟨G, 0, none⟩) n d)
  have hO9 := own_off (own_off (own_off hO6 (p := ⟨Q + 1, 0, none⟩) hGQ (.int .i64 W)) (p := ⟨Q + 1, 1, none⟩) hGQ (.int .i64 D)) (p := ⟨Q + 1, 2, none⟩) hGQ (.slice (some ⟨G, 0, none⟩) n d)
  have hB9 := ((hB6.setCell (p := ⟨Q + 1, 0, none⟩) (by show w.heap.size ≤ Q + 1; omega) (.int .i64 W)).setCell (p := ⟨Q + 1, 1, none⟩) (by show w.heap.size ≤ Q + 1; omega) (.int .i64 D)).setCell (p := ⟨Q + 1, 2, none⟩) (by show w.heap.size ≤ Q + 1; omega) (.slice (some ⟨G, 0, none⟩) n d)
  go_wp2
  generalize ((w6.setCell ⟨Q + 1, 0, none⟩ (.int .i64 W)).setCell ⟨Q + 1, 1, none⟩ (.int .i64 D)).setCell ⟨Q + 1, 2, none⟩ (.slice (some ⟨G, 0, none⟩) n d) = wz at *
  have e0 : wz.cell? ⟨Q + 1, 0, none⟩ = some (.int .i64 W) := hY9.cell 0
  have e1 : wz.cell? ⟨Q + 1, 1, none⟩ = some (.int .i64 D) := hY9.cell 1
  have e2 : wz.cell? ⟨Q + 1, 2, none⟩ = some (.slice (some ⟨G, 0, none⟩) n d) := hY9.cell 2
  exact bodyPost_ret (v := .agg #[.int .i64 W, .int .i64 D, .slice (some ⟨G, 0, none⟩) n d]) (by simp [results, Tryz.results18, go_sem, e0, e1, e2]) rfl ⟨G, d, rfl, Joins.ownsRow_le hO9 hW2s, hB9⟩
set_option maxRecDepth 100000 in
set_option maxHeartbeats 4000000 in
theorem l1Hall_any (W D n : Nat) (A : Option Addr) (c : Nat) (g : List Int) (w : World) (h : HallAt w W D n A c g) :
    Calls Tryz.prog 23 #[.agg #[.int .i64 W, .int .i64 D, .slice A n c]] w (HRes w W D n g) := by
  have hn := h.shp.n12
  obtain ⟨b, off, rfl⟩ := h.some
  have H := Lib.hid h
  clear h
  have hX1 := Whole.new w 25 [.int .i64 W, .int .i64 D, .slice (some ⟨b, off, none⟩) n c]
  have hX2 := hX1.alloc (.cells #[.int .i64 0, .int .i64 0, .slice none 0 0] 25)
  have hY2 : Whole ((w.alloc (.cells #[.int .i64 W, .int .i64 D, .slice (some ⟨b, off, none⟩) n c] 25)).alloc (.cells #[.int .i64 0, .int .i64 0, .slice none 0 0] 25)) (w.heap.size + 1) 25 [.int .i64 0, .int .i64 0, .slice none 0 0] := by
    have := Whole.new (w.alloc (.cells #[.int .i64 W, .int .i64 D, .slice (some ⟨b, off, none⟩) n c] 25)) 25 [.int .i64 0, .int .i64 0, .slice none 0 0]
    simpa using this
  have hB2 : Below w.heap.size w ((w.alloc (.cells #[.int .i64 W, .int .i64 D, .slice (some ⟨b, off, none⟩) n c] 25)).alloc (.cells #[.int .i64 0, .int .i64 0, .slice none 0 0] 25)) := ((Below.refl _ _).alloc (Nat.le_refl _) _).alloc (by simp) _
  go_enter Tryz.func23, Tryz.ntmps23
  go_wp2
  generalize (w.alloc (.cells #[.int .i64 W, .int .i64 D, .slice (some ⟨b, off, none⟩) n c] 25)).alloc (.cells #[.int .i64 0, .int .i64 0, .slice none 0 0] 25) = w2 at *
  clear hX1
  obtain ⟨Q, HQ⟩ : ∃ Q, Hid (Q = w.heap.size) := ⟨_, rfl⟩
  have hQw : w.heap.size ≤ Q := Nat.le_of_eq HQ.out.symm
  rw [← HQ.out] at hX2 hY2 ⊢
  have x0 : w2.cell? ⟨Q, 0, none⟩ = some (.int .i64 W) := hX2.cell 0
  have x1 : w2.cell? ⟨Q, 1, none⟩ = some (.int .i64 D) := hX2.cell 1
  have x2 : w2.cell? ⟨Q, 2, none⟩ = some (.slice (some ⟨b, off, none⟩) n c) := hX2.cell 2
  have HX := Lib.hid hX2
  clear hX2
  have hW2s : w.heap.size ≤ w2.heap.size := hB2.size
  have hl6 := hY2.lt
  have hE := own0 (base := w2.heap.size) (w1 := w2.drew) (Nat.le_refl _)
  have hX3 := (Whole.drew HX.out).alloc (.cells #[] 3)
  have hY3 := (Whole.drew hY2).alloc (.cells #[] 3)
  have hB3 := hB2.drew.alloc hB2.size (.cells #[] 3)
  have hs3 : w2.heap.size ≤ (w2.drew.alloc (.cells #[] 3)).heap.size := ((Below.refl w2.heap.size w2).drew.alloc (Nat.le_refl _) _).size
  have hbs : ∀ w : World, (Instr.buildSlice 23 0 #[]).run Tryz.prog w = .ok (.slice (some ⟨w.heap.size, 0, none⟩) 0 0) (w.alloc (.cells #[] 3)) := fun _ => by kernel_rfl
  refine wp_region_held_drew (S := (fun w' => w'.cell? ⟨Q, 0, none⟩ = some (.int .i64 W) ∧ w'.cell? ⟨Q, 1, none⟩ = some (.int .i64 D) ∧ w'.cell? ⟨Q, 2, none⟩ = some (.slice (some ⟨b, off, none⟩) n c))) (by kernel_rfl) ?_ (fun hHeld => ?_)
  · (try dsimp only); (first | exact ⟨x0, x1, x2⟩ | exact ⟨hX9.cell 0, hX9.cell 1, hX9.cell 2⟩ | exact ⟨hX6.cell 0, hX6.cell 1, hX6.cell 2⟩ | exact ⟨hX3.cell 0, hX3.cell 1, hX3.cell 2⟩)
  refine wpAnyH_take (i := 0) (v := ?vq2_0_1) (by simp only [List.getElem?_toArray, List.getElem?_cons_zero]; rfl) (by kernel_rfl) (by kernel_rfl) (by kernel_rfl) (by exact fun _ _ _ h => h) (Or.inl ⟨by rfl, ?hq2_0_1⟩) hHeld ?rq2_0_1
  case hq2_0_1 => (intro w hSw; (try dsimp only at hSw); go_simp; (try with_reducible rfl))
  try simp only [put_laws]
  refine wpAnyH_take (i := 1) (v := ?vq2_1_2) (by simp only [List.getElem?_toArray, List.getElem?_cons_succ, List.getElem?_cons_zero]; rfl) (by kernel_rfl) (by kernel_rfl) (by kernel_rfl) (by exact fun _ _ _ h => h) (Or.inl ⟨by rfl, ?hq2_1_2⟩) hHeld ?rq2_1_2
  case hq2_1_2 => (intro w hSw; (try dsimp only at hSw); go_simp; (try with_reducible rfl))
  try simp only [put_laws]
  refine wpAnyH_take (i := 2) (v := ?vq2_2_3) (by simp only [List.getElem?_toArray, List.getElem?_cons_succ, List.getElem?_cons_zero]; rfl) (by kernel_rfl) (by kernel_rfl) (by kernel_rfl) (by exact fun _ _ _ h => h) (Or.inl ⟨by rfl, ?hq2_2_3⟩) hHeld ?rq2_2_3
  case hq2_2_3 => (intro w hSw; (try dsimp only at hSw); go_simp; (try with_reducible rfl))
  try simp only [put_laws]
  refine wpAnyH_take (i := 3) (v := ?vq2_3_4) (by simp only [List.getElem?_toArray, List.getElem?_cons_succ, List.getElem?_cons_zero]; rfl) (by kernel_rfl) (by kernel_rfl) (by kernel_rfl) (by exact fun _ _ _ h => h) (Or.inl ⟨by rfl, ?hq2_3_4⟩) hHeld ?rq2_3_4
  case hq2_3_4 => (intro w hSw; (try dsimp only at hSw); go_simp; (try with_reducible rfl))
  try simp only [put_laws]
  refine wpAnyH_take (i := 5) (v := ?vq2_5_5) (by simp only [List.getElem?_toArray, List.getElem?_cons_succ, List.getElem?_cons_zero]; rfl) (by kernel_rfl) (by kernel_rfl) (by kernel_rfl) (by exact fun _ _ _ h => h) (Or.inl ⟨by rfl, ?hq2_5_5⟩) hHeld ?rq2_5_5
  case hq2_5_5 => (intro w hSw; (try dsimp only at hSw); go_simp; (try with_reducible rfl))
  try simp only [put_laws]
  refine wpAnyH_take (i := 6) (v := ?vq2_6_6) (by simp only [List.getElem?_toArray, List.getElem?_cons_succ, List.getElem?_cons_zero]; rfl) (by kernel_rfl) (by kernel_rfl) (by kernel_rfl) (by exact fun _ _ _ h => h) (Or.inl ⟨by rfl, ?hq2_6_6⟩) hHeld ?rq2_6_6
  case hq2_6_6 => (intro w hSw; (try dsimp only at hSw); go_simp; (try with_reducible rfl))
  try simp only [put_laws]
  refine wpAnyH_ready (rs := [4]) (by kernel_rfl) (by simp) ?_
  refine AllReadyH.cons (by simp only [List.getElem?_toArray, List.getElem?_cons_succ, List.getElem?_cons_zero]; rfl) (fun K hK => ?_) AllReadyH.nil
  go_simp
  skip
  refine hK.out _ _ ?_ (fun hHeld => ?_)
  · (try dsimp only); (first | exact ⟨x0, x1, x2⟩ | exact ⟨hX9.cell 0, hX9.cell 1, hX9.cell 2⟩ | exact ⟨hX6.cell 0, hX6.cell 1, hX6.cell 2⟩ | exact ⟨hX3.cell 0, hX3.cell 1, hX3.cell 2⟩)
  clear hK K
  try simp only [put_laws]
  refine wpAnyH_ready (rs := [7]) (by kernel_rfl) (by simp) ?_
  refine AllReadyH.cons (by simp only [List.getElem?_toArray, List.getElem?_cons_succ, List.getElem?_cons_zero]; rfl) (fun K hK => ?_) AllReadyH.nil
  rw [if_pos (by rfl)]
  (refine wp_copyI (.tmp 7) (.tmp 9) rfl hE hs3 (H.out.ints.below hB3) rfl rfl (by omega) ?_; intro v6 w6 hO6 hgr6; obtain ⟨G, d, rfl⟩ := own_form hO6 (by omega); have hX6 := hX3.grow hgr6 (by simp; omega); have hY6 := hY3.grow hgr6 (by simp; omega); have hB6 := hB3.grown hgr6 hB3.size (fun k hk => by injection hk with hk; subst hk; exact hB2.size); have hGQ : G ≠ Q + 1 := (by have h1 := (hO6.lt G rfl).1; omega); have y0 : w6.cell? ⟨Q + 1, 0, none⟩ = some (.int .i64 0) := hY6.cell 0; have y1 : w6.cell? ⟨Q + 1, 1, none⟩ = some (.int .i64 0) := hY6.cell 1; have y2 : w6.cell? ⟨Q + 1, 2, none⟩ = some (.slice none 0 0) := hY6.cell 2; have z0 := hY6.free 0; have z1 := hY6.free 1; have z2 := hY6.free 2; have hX9 := ((hX6.far (p := ⟨Q + 1, 0, none⟩) (by show Q ≠ Q + 1; omega) (.int .i64 W)).far (p := ⟨Q + 1, 1, none⟩) (by show Q ≠ Q + 1; omega) (.int .i64 D)).far (p := ⟨Q + 1, 2, none⟩) (by show Q ≠ Q + 1; omega) (.slice (some ⟨G, 0, none⟩) n d))
  refine hK.out _ _ ?_ (fun hHeld => ?_)
  · (try dsimp only); (first | exact ⟨x0, x1, x2⟩ | exact ⟨hX9.cell 0, hX9.cell 1, hX9.cell 2⟩ | exact ⟨hX6.cell 0, hX6.cell 1, hX6.cell 2⟩ | exact ⟨hX3.cell 0, hX3.cell 1, hX3.cell 2⟩)
  clear hK K
  try simp only [put_laws]
  refine wpAnyH_take (i := 8) (v := ?vq2_8_9) (by simp only [List.getElem?_toArray, List.getElem?_cons_succ, List.getElem?_cons_zero]; rfl) (by kernel_rfl) (by kernel_rfl) (by kernel_rfl) (by exact fun _ _ _ h => h) (Or.inl ⟨by rfl, ?hq2_8_9⟩) hHeld ?rq2_8_9
  case hq2_8_9 => (intro w hSw; (try dsimp only at hSw); go_simp; (try with_reducible rfl))
  try simp only [put_laws]
  refine wpAnyH_ready (rs := [9]) (by kernel_rfl) (by simp) ?_
  refine AllReadyH.cons (by simp only [List.getElem?_toArray, List.getElem?_cons_succ, List.getElem?_cons_zero]; rfl) (fun K hK => ?_) AllReadyH.nil
  go_simp
  skip
  refine hK.out _ _ ?_ (fun hHeld => ?_)
  · (try dsimp only); (first | exact ⟨x0, x1, x2⟩ | exact ⟨hX9.cell 0, hX9.cell 1, hX9.cell 2⟩ | exact ⟨hX6.cell 0, hX6.cell 1, hX6.cell 2⟩ | exact ⟨hX3.cell 0, hX3.cell 1, hX3.cell 2⟩)
  clear hK K
  try simp only [put_laws]
  refine wpAnyH_done (by kernel_rfl) ?_ _
  have hY9 := ((hY6.set_ 0 (.int .i64 W)).set_ 1 (.int .i64 D)).set_ 2 (.slice (some ⟨G, 0, none⟩) n d)
  have hO9 := own_off (own_off (own_off hO6 (p := ⟨Q + 1, 0, none⟩) hGQ (.int .i64 W)) (p := ⟨Q + 1, 1, none⟩) hGQ (.int .i64 D)) (p := ⟨Q + 1, 2, none⟩) hGQ (.slice (some ⟨G, 0, none⟩) n d)
  have hB9 := ((hB6.setCell (p := ⟨Q + 1, 0, none⟩) (by show w.heap.size ≤ Q + 1; omega) (.int .i64 W)).setCell (p := ⟨Q + 1, 1, none⟩) (by show w.heap.size ≤ Q + 1; omega) (.int .i64 D)).setCell (p := ⟨Q + 1, 2, none⟩) (by show w.heap.size ≤ Q + 1; omega) (.slice (some ⟨G, 0, none⟩) n d)
  go_wp2
  generalize ((w6.setCell ⟨Q + 1, 0, none⟩ (.int .i64 W)).setCell ⟨Q + 1, 1, none⟩ (.int .i64 D)).setCell ⟨Q + 1, 2, none⟩ (.slice (some ⟨G, 0, none⟩) n d) = wz at *
  have e0 : wz.cell? ⟨Q + 1, 0, none⟩ = some (.int .i64 W) := hY9.cell 0
  have e1 : wz.cell? ⟨Q + 1, 1, none⟩ = some (.int .i64 D) := hY9.cell 1
  have e2 : wz.cell? ⟨Q + 1, 2, none⟩ = some (.slice (some ⟨G, 0, none⟩) n d) := hY9.cell 2
  exact bodyPost_ret (v := .agg #[.int .i64 W, .int .i64 D, .slice (some ⟨G, 0, none⟩) n d]) (by simp [results, Tryz.results23, go_sem, e0, e1, e2]) rfl ⟨G, d, rfl, Joins.ownsRow_le hO9 hW2s, hB9⟩
end Go.Proofs.YtdebjcempkgeaaaGreatDoor
