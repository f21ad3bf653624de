/-
  Valid halls in memory: hasCell, CellsApart, CellsBeside, HallFree of both texts.
-/
import Derived.Test.YtdebjcempkgeaaaGreatDoorHallB
namespace Go.Proofs.YtdebjcempkgeaaaGreatDoor
open Go.ChangeShapes Go.WideShapes Go.ChangeAt Go.RowKit

/-- A valid hall, its cells in memory. -/
structure HallAt (w : World) (W D n : Nat) (A : Option Addr) (c : Nat) (g : List Int) : Prop where
  shp : Shp W D n
  ints : IntsAt w A n g
  cap : n ≤ c ∧ c ≤ 9223372036854775807
  ok : hallB W D g = true
theorem HallAt.below {w w' : World} {W D n c : Nat} {A : Option Addr} {g : List Int} (h : HallAt w W D n A c g) (hb : Below w.heap.size w w') : HallAt w' W D n A c g := ⟨h.shp, h.ints.below hb, h.cap, h.ok⟩
/-- The call answers a list of numbers that it has made itself. -/
def LI (w : World) (xs : List Int) (e : Ending) (w' : World) : Prop :=
  ∃ (A : Option Addr) (n c : Nat), e = .returned (.slice A n c) ∧ w'.ownsRow w.heap.size 3 1 (.slice A n c) n (xs.map (Value.int .i64)) ∧ Below w.heap.size w w'
theorem ownNil (w : World) (base sz : Nat) (e : TypeId) : w.ownsRow base e sz (.slice none 0 0) 0 [] := ⟨by simp, .inl ⟨rfl, rfl⟩⟩

set_option maxHeartbeats 1000000 in
theorem hasCell_any (wd dp : Int) (A : Option Addr) (n c : Nat) (z : Int) (w : World) (b : Bool) (hb : (decide (0 ≤ z) && decide (z < n)) = b) :
    Calls Tryz.prog 37 #[.agg #[.int .i64 wd, .int .i64 dp, .slice A n c], .int .i64 z] w (RV w (.bool b)) := by
  subst hb
  by_cases h0 : 0 ≤ z
  · have d0 : decide (0 ≤ z) = true := by simpa using h0
    go_enter Tryz.func37, Tryz.ntmps37
    go_wp2
    go_ret
    exact ⟨by simp [h0], (Below.refl _ _).alloc (Nat.le_refl _) _⟩
  · have d0 : decide (0 ≤ z) = false := by simpa using h0
    rw [d0]
    go_enter Tryz.func37, Tryz.ntmps37
    go_wp2
    go_ret
    exact ⟨rfl, (Below.refl _ _).alloc (Nat.le_refl _) _⟩

set_option maxRecDepth 100000 in
set_option maxHeartbeats 2000000 in
theorem cellsApart_any (W D n : Nat) (A : Option Addr) (c : Nat) (g : List Int) (a b : Nat) (w : World) (h : HallAt w W D n A c g) (ha : a < n) (hb : b < n) :
    Calls Tryz.prog 57 #[.agg #[.int .i64 W, .int .i64 D, .slice A n c], .int .i64 a, .int .i64 b] w (RV w (.int .i64 (apN W a b : Nat))) := by
  have hn := h.shp.n12
  have hW := Whole.new w 25 [.int .i64 W, .int .i64 D, .slice A n c]
  have hB1 : Below w.heap.size w (w.alloc (.cells #[.int .i64 W, .int .i64 D, .slice A n c] 25)) := (Below.refl _ _).alloc (Nat.le_refl _) _
  have h1 := h.below hB1
  have H := Lib.hid h
  have w1 := h.shp.w1
  have w2 := h.shp.w2
  clear h
  go_enter Tryz.func57, Tryz.ntmps57
  go_wp2_with fail
  refine (hallValid_any W D A n c g _ (by omega) h1.ints).mono ?_; rintro e w3 ⟨rfl, hb3⟩
  rw [H.out.ok]
  have hW3 := hW.below hb3
  have hB3 := below_next hB1 hb3
  clear hW hB1 hb3 h1
  have q0 := hW3.cell 0
  have q1 := hW3.cell 1
  have q2 := hW3.cell 2
  simp only [List.getElem?_cons_zero, List.getElem?_cons_succ] at q0 q1 q2
  go_wp2_with fail
  refine (hasCell_any W D A n c a _ true (by simp; omega)).mono ?_; rintro e w4 ⟨rfl, hb4⟩
  have hW4 := hW3.below hb4
  have hB4 := below_next hB3 hb4
  clear hW3 hB3 hb4 q0 q1 q2
  have q0 := hW4.cell 0
  have q1 := hW4.cell 1
  have q2 := hW4.cell 2
  simp only [List.getElem?_cons_zero, List.getElem?_cons_succ] at q0 q1 q2
  go_wp2_with fail
  refine (hasCell_any W D A n c b _ true (by simp; omega)).mono ?_; rintro e w5 ⟨rfl, hb5⟩
  have hW5 := hW4.below hb5
  have hB5 := below_next hB4 hb5
  clear hW4 hB4 hb5 q0 q1 q2
  have q0 := hW5.cell 0
  simp only [List.getElem?_cons_zero] at q0
  go_wp2_with fail
  refine (apart_any W a b _ ⟨w1, w2⟩ (by omega) (by omega)).mono ?_; rintro e w6 ⟨rfl, hb6⟩
  have hB6 := below_next hB5 hb6
  go_wp2
  go_ret
  exact ⟨rfl, hB6⟩

set_option maxRecDepth 100000 in
set_option maxHeartbeats 2000000 in
theorem specCellsApart_any (W D n : Nat) (A : Option Addr) (c : Nat) (g : List Int) (a b : Nat) (w : World) (h : HallAt w W D n A c g) (ha : a < n) (hb : b < n) :
    Calls Tryz.prog 78 #[.agg #[.int .i64 W, .int .i64 D, .slice A n c], .int .i64 a, .int .i64 b] w (RV w (.int .i64 (apN W a b : Nat))) := by
  have hn := h.shp.n12
  have hW := Whole.new w 25 [.int .i64 W, .int .i64 D, .slice A n c]
  have hB1 : Below w.heap.size w (w.alloc (.cells #[.int .i64 W, .int .i64 D, .slice A n c] 25)) := (Below.refl _ _).alloc (Nat.le_refl _) _
  have h1 := h.below hB1
  have H := Lib.hid h
  have w1 := h.shp.w1
  have w2 := h.shp.w2
  clear h
  go_enter Tryz.func78, Tryz.ntmps78
  go_wp2_with fail
  refine (specHallValid_any W D A n c g _ (by omega) H.out.cap.1 h1.ints).mono ?_; rintro e w3 ⟨rfl, hb3⟩
  rw [H.out.ok]
  have hW3 := hW.below hb3
  have hB3 := below_next hB1 hb3
  clear hW hB1 hb3 h1
  have q0 := hW3.cell 0
  have q1 := hW3.cell 1
  have q2 := hW3.cell 2
  simp only [List.getElem?_cons_zero, List.getElem?_cons_succ] at q0 q1 q2
  have ha0 : (a : Int) ≤ (n : Int) - 1 := by omega
  have hb0 : (b : Int) ≤ (n : Int) - 1 := by omega
  go_wp2_with (go_at_call 39; refine (l1In_same _ _ _ true _ (by simp; omega)).mono ?_; rintro e wz ⟨rfl, rfl⟩)
  refine (l1Apart_any W a b _ ⟨w1, w2⟩ (by omega) (by omega)).mono ?_; rintro e w6 ⟨rfl, hb6⟩
  have hB6 := below_next hB3 hb6
  go_wp2
  go_ret
  exact ⟨rfl, hB6⟩

/-- The cells before k that are beside a cell. -/
def besP (W a k : Nat) : List Int := ((List.range k).filter fun j => apN W a j == 1).map fun (j : Nat) => (j : Int)
theorem besP_len (W a k : Nat) : (besP W a k).length ≤ k := by
  unfold besP; rw [List.length_map]; exact Nat.le_trans (List.length_filter_le _ _) (by simp)
theorem besP_yes {W a k : Nat} (h : apN W a k = 1) : besP W a (k + 1) = besP W a k ++ [(k : Int)] := by
  unfold besP; rw [List.range_succ, List.filter_append]; simp [h]
theorem besP_no {W a k : Nat} (h : apN W a k ≠ 1) : besP W a (k + 1) = besP W a k := by
  unfold besP; rw [List.range_succ, List.filter_append]; simp [h]
theorem apN_le {W a b : Nat} (hW : W ≤ 4) (h1 : 2 ≤ W) (ha : a ≤ 12) (hb : b ≤ 12) : apN W a b ≤ 30 := by
  have hm1 : a % W < W := Nat.mod_lt _ (by omega)
  have hm2 : b % W < W := Nat.mod_lt _ (by omega)
  have hd1 : a / W ≤ 12 := Nat.le_trans (Nat.div_le_self _ _) ha
  have hd2 : b / W ≤ 12 := Nat.le_trans (Nat.div_le_self _ _) hb
  unfold apN
  generalize a / W = x at *
  generalize b / W = y at *
  omega

set_option maxRecDepth 100000 in
set_option maxHeartbeats 4000000 in
theorem cellsBeside_any (W D n : Nat) (A : Option Addr) (c : Nat) (g : List Int) (a : Nat) (w : World) (h : HallAt w W D n A c g) (ha : a < n) :
    Calls Tryz.prog 56 #[.agg #[.int .i64 W, .int .i64 D, .slice A n c], .int .i64 a] w (LI w (besP W a n)) := by
  have hn := h.shp.n12
  have hW := Whole.new w 25 [.int .i64 W, .int .i64 D, .slice A n c]
  have hB1 : Below w.heap.size w (w.alloc (.cells #[.int .i64 W, .int .i64 D, .slice A n c] 25)) := (Below.refl _ _).alloc (Nat.le_refl _) _
  have h1 := h.below hB1
  have H := Lib.hid h
  have w1 := h.shp.w1
  have w2 := h.shp.w2
  clear h
  go_enter Tryz.func56, Tryz.ntmps56
  go_wp2_with fail
  refine (hallValid_any W D A n c g _ (by omega) h1.ints).mono ?_; rintro e w3 ⟨rfl, hb3⟩
  rw [H.out.ok]
  have hW3 := hW.below hb3
  have hB3 := below_next hB1 hb3
  clear hW hB1 hb3 h1
  have q0 := hW3.cell 0
  have q1 := hW3.cell 1
  have q2 := hW3.cell 2
  simp only [List.getElem?_cons_zero, List.getElem?_cons_succ] at q0 q1 q2
  go_wp2_with fail
  refine (hasCell_any W D A n c a _ true (by simp; omega)).mono ?_; rintro e w4 ⟨rfl, hb4⟩
  have hW4 := hW3.below hb4
  have hB4 := below_next hB3 hb4
  clear hW3 hB3 hb4 q0 q1 q2
  obtain ⟨Q, HQ⟩ : ∃ Q, Hid (Q = w.heap.size) := ⟨_, rfl⟩
  rw [← HQ.out] at hW4 ⊢
  have q2 := hW4.cell 2
  simp only [List.getElem?_cons_zero, List.getElem?_cons_succ] at q2
  go_wp2
  go_loopw [5, 19] (fun v i wr => ∃ (k m cc : Nat) (B : Option Addr), k ≤ n ∧ i = .int .i64 k ∧ v = .slice B m cc ∧ m ≤ k ∧ wr.ownsRow (Q + 1) 3 1 (.slice B m cc) m ((besP W a k).map (Value.int .i64)) ∧ Whole wr Q 25 [.int .i64 W, .int .i64 D, .slice A n c] ∧ Below w.heap.size w wr) (fun _ i _ => n - (intOf i).toNat)
  case atStart => exact ⟨0, 0, 0, none, Nat.zero_le _, rfl, rfl, Nat.le_refl _, ownNil _ _ _ _, hW4, hB4⟩
  case round =>
    obtain ⟨k, m, cc, B, hk, rfl, rfl, hmk, hO, hWr, hbw⟩ := hrel
    clear q2 hW4 hB4
    have q0 := hWr.cell 0
    simp only [List.getElem?_cons_zero] at q0
    by_cases hlt : k < n
    · go_wp2_with fail
      refine (apart_any W a k _ ⟨w1, w2⟩ (by omega) (by omega)).mono ?_; rintro e w6 ⟨rfl, hb6⟩
      have hO6 := own_keep hO hb6
      have hW6 := hWr.below hb6
      have hB6 := below_next hbw hb6
      have hap := apN_le (a := a) (b := k) w2 w1 (by omega) (by omega)
      clear hO hWr hbw hb6 q0
      by_cases h1 : apN W a k = 1
      · have HY := Lib.hid (besP_yes h1)
        rw [h1]
        clear h1 hap
        go_wp2_with (at_builtin; (refine wpList_more (base := Q + 1) rfl (.tmp 28) (.tmp 30) rfl (by have := hW6.lt; omega) hO6 (k : Int) rfl rfl (by omega) ?_; intro g' c' w7 hO7 hb7))
        go_roundw
        case rel => exact ⟨k + 1, m + 1, c', _, by omega, by go_num, rfl, by omega, by rw [HY.out]; exact hO7, hW6.belowN hb7 (by omega), hB6.trans (hb7.mono (by rw [HQ.out]; omega))⟩
        case measure => simp [intOf]; omega
      · have HN := Lib.hid (besP_no h1)
        have hd : (((apN W a k : Nat) : Int) == 1) = false := by rw [beq_eq_false_iff_ne]; omega
        generalize apN W a k = ap at *
        clear h1
        go_wp2
        go_roundw
        case rel => exact ⟨k + 1, m, cc, B, by omega, by go_num, rfl, by omega, by rw [HN.out]; exact hO6, hW6, hB6⟩
        case measure => simp [intOf]; omega
    · obtain rfl : k = n := by omega
      go_wp2
      go_ret
      exact ⟨B, m, cc, rfl, Joins.ownsRow_le hO (by rw [HQ.out]; omega), hbw⟩
set_option maxRecDepth 100000 in
set_option maxHeartbeats 4000000 in
theorem specCellsBeside_any (W D n : Nat) (A : Option Addr) (c : Nat) (g : List Int) (a : Nat) (w : World) (h : HallAt w W D n A c g) (ha : a < n) :
    Calls Tryz.prog 80 #[.agg #[.int .i64 W, .int .i64 D, .slice A n c], .int .i64 a] w (LI w (besP W a n)) := by
  have hn := h.shp.n12
  have hbs : ∀ w : World, (Instr.buildSlice 23 0 #[]).run Tryz.prog w = .ok (.slice (some ⟨w.heap.size, 0, none⟩) 0 0) (w.alloc (.cells #[] 3)) := fun _ => by kernel_rfl
  have hW := Whole.new w 25 [.int .i64 W, .int .i64 D, .slice A n c]
  have hB1 : Below w.heap.size w (w.alloc (.cells #[.int .i64 W, .int .i64 D, .slice A n c] 25)) := (Below.refl _ _).alloc (Nat.le_refl _) _
  have H := Lib.hid h
  have w1 := h.shp.w1
  have w2 := h.shp.w2
  clear h
  go_enter Tryz.func80, Tryz.ntmps80
  go_wp2_with fail
  clear hbs
  obtain ⟨Q, HQ⟩ : ∃ Q, Hid (Q = w.heap.size) := ⟨_, rfl⟩
  have hsz : (w.alloc (.cells #[.int .i64 W, .int .i64 D, .slice A n c] 25)).heap.size = Q + 1 := by rw [HQ.out]; simp
  have hO1 := own0 (base := Q + 1) (w1 := w.alloc (.cells #[.int .i64 W, .int .i64 D, .slice A n c] 25)) (by omega)
  have hW2 := hW.alloc (.cells #[] 3)
  have hB2 := hB1.alloc hB1.size (.cells #[] 3)
  rw [hsz] at hO1
  rw [← HQ.out] at hW2 ⊢
  clear hW hB1 hsz
  generalize (w.alloc (.cells #[.int .i64 W, .int .i64 D, .slice A n c] 25)).alloc (.cells #[] 3) = w3 at *
  go_loopw [5, 6] (fun v i wr => ∃ (k m cc : Nat) (B : Option Addr), k ≤ n ∧ i = .int .i64 k ∧ v = .slice B m cc ∧ m ≤ k ∧ wr.ownsRow (Q + 1) 3 1 (.slice B m cc) m ((besP W a k).map (Value.int .i64)) ∧ Whole wr Q 25 [.int .i64 W, .int .i64 D, .slice A n c] ∧ Below w.heap.size w wr) (fun _ i _ => n - (intOf i).toNat)
  case atStart => exact ⟨0, 0, 0, _, Nat.zero_le _, rfl, rfl, Nat.le_refl _, hO1, hW2, hB2⟩
  case round =>
    obtain ⟨k, m, cc, B, hk, rfl, rfl, hmk, hO, hWr, hbw⟩ := hrel
    clear hW2 hB2 hO1
    have q0 := hWr.cell 0
    have q1 := hWr.cell 1
    have q2 := hWr.cell 2
    simp only [List.getElem?_cons_zero, List.getElem?_cons_succ] at q0 q1 q2
    by_cases hlt : k < n
    · go_wp2_with fail
      refine (specCellsApart_any W D n A c g a k _ (H.out.below hbw) ha (by omega)).mono ?_; rintro e w6 ⟨rfl, hb6⟩
      have hO6 := own_keep hO hb6
      have hW6 := hWr.below hb6
      have hB6 := below_next hbw hb6
      have hap := apN_le (a := a) (b := k) w2 w1 (by omega) (by omega)
      clear hO hWr hbw hb6 q0 q1 q2
      by_cases h1 : apN W a k = 1
      · have HY := Lib.hid (besP_yes h1)
        rw [h1]
        clear h1 hap
        go_wp2_with (at_builtin; (refine wpList_more (base := Q + 1) rfl (.tmp 20) (.tmp 22) rfl (by have := hW6.lt; omega) hO6 (k : Int) rfl rfl (by omega) ?_; intro g' c' w7 hO7 hb7))
        go_roundw
        case rel => exact ⟨k + 1, m + 1, c', _, by omega, by go_num, rfl, by omega, by rw [HY.out]; exact hO7, hW6.belowN hb7 (by omega), hB6.trans (hb7.mono (by rw [HQ.out]; omega))⟩
        case measure => simp [intOf]; omega
      · have HN := Lib.hid (besP_no h1)
        have hd : (((apN W a k : Nat) : Int) == 1) = false := by rw [beq_eq_false_iff_ne]; omega
        generalize apN W a k = ap at *
        clear h1
        go_wp2
        go_roundw
        case rel => exact ⟨k + 1, m, cc, B, by omega, by go_num, rfl, by omega, by rw [HN.out]; exact hO6, hW6, hB6⟩
        case measure => simp [intOf]; omega
    · obtain rfl : k = n := by omega
      go_wp2
      go_ret
      exact ⟨B, m, cc, rfl, Joins.ownsRow_le hO (by rw [HQ.out]; omega), hbw⟩
end Go.Proofs.YtdebjcempkgeaaaGreatDoor
