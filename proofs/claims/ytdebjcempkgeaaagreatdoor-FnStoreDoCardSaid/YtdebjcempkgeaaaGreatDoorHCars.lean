/-
  Valid halls in memory: HallCars and HallFind of the program; sameHall of the statements.
-/
import Derived.Test.YtdebjcempkgeaaaGreatDoorHoleP
import Derived.Test.YtdebjcempkgeaaaGreatDoorSameI
import Derived.Test.YtdebjcempkgeaaaGreatDoorShelf
import Derived.Sort.OwnSortedInts
namespace Go.Proofs.YtdebjcempkgeaaaGreatDoor
open Go.ChangeShapes Go.WideShapes Go.ChangeAt Go.RowKit

def srt (xs : List Int) : List Int := xs.mergeSort fun x y => decide (x ≤ y)
theorem srt_len (xs : List Int) : (srt xs).length = xs.length := by unfold srt; simp
theorem posT_yes {g : List Int} {k : Nat} {z : Int} (hz : Hid (g[k]? = some z)) (h : 0 < z) : posL (g.take (k + 1)) = posL (g.take k) ++ [z] := by
  rw [take_next hz]; unfold posL; rw [List.filter_append]; simp [h]
theorem posT_no {g : List Int} {k : Nat} {z : Int} (hz : Hid (g[k]? = some z)) (h : ¬ 0 < z) : posL (g.take (k + 1)) = posL (g.take k) := by
  rw [take_next hz]; unfold posL; rw [List.filter_append]; simp [h]
theorem own_sorted {w : World} {base g c m q : Nat} {os : Array Obj} {xs : List Int} (h : w.ownsRow base 3 1 (.slice (some ⟨g, 0, none⟩) m c) m (xs.map (Value.int .i64))) :
    Sort.Holds (Value.int .i64) w g 0 xs.toArray ∧ (Sort.grow (Sort.putRow (Value.int .i64) (Sort.ahead w q) g 0 (srt xs).toArray) os).ownsRow base 3 1 (.slice (some ⟨g, 0, none⟩) m c) m ((srt xs).map (Value.int .i64)) := by
  have hl : xs.length = m := by have := h.1; simpa using this
  subst hl
  rcases h.2 with ⟨hv, _⟩ | ⟨g', cap, cur, hv, hg, hcur, h1, h2, h3, h4⟩
  · cases hv
  injection hv with e1 _ e2; injection e1 with e1; injection e1 with e1; subst e1; subst e2
  rw [Nat.mul_one] at h4
  exact ⟨holds_of_blockI hcur h4, ownsRow_sortedI (srt_len xs) hg hcur h1 h2 h3⟩

set_option maxRecDepth 100000 in
set_option maxHeartbeats 4000000 in
theorem hallCars_any (W D n : Nat) (A : Option Addr) (c : Nat) (g : List Int) (w : World) (h : HallAt w W D n A c g) :
    Calls Tryz.prog 13 #[.agg #[.int .i64 W, .int .i64 D, .slice A n c]] w (LI w (srt (posL g))) := by
  have hn := h.shp.n12
  have hW := Whole.new w 25 [.int .i64 W, .int .i64 D, .slice A n c]
  have hB1 : Below w.heap.size w (w.alloc (.cells #[.int .i64 W, .int .i64 D, .slice A n c] 25)) := (Below.refl _ _).alloc (Nat.le_refl _) _
  have h1 := h.below hB1
  have H := Lib.hid h
  have HGL := Lib.hid h.ints.len
  clear h
  go_enter Tryz.func13, Tryz.ntmps13
  go_wp2_with fail
  refine (hallValid_any W D A n c g _ (by omega) h1.ints).mono ?_; rintro e w3 ⟨rfl, hb3⟩
  rw [H.out.ok]
  have hW3 := hW.below hb3
  have hB3 := below_next hB1 hb3
  clear hW hB1 hb3 h1
  have q2 := hW3.cell 2
  simp only [List.getElem?_cons_zero, List.getElem?_cons_succ] at q2
  go_wp2
  go_loopw [3, 5, 12] (fun v u i wr => ∃ (k m cc : Nat) (B : Option Addr), k ≤ n ∧ i = .int .i64 k ∧ v = .slice B m cc ∧ m ≤ k ∧ wr.ownsRow w.heap.size 3 1 (.slice B m cc) m ((posL (g.take k)).map (Value.int .i64)) ∧ Below w.heap.size w wr) (fun _ _ i _ => n - (intOf i).toNat)
  case atStart => exact ⟨0, 0, 0, none, Nat.zero_le _, rfl, rfl, Nat.le_refl _, ownNil _ _ _ _, hB3⟩
  case round =>
    obtain ⟨k, m, cc, B, hk, rfl, rfl, hmk, hO, hbw⟩ := hrel
    clear q2 hW3 hB3
    by_cases hlt : k < n
    · obtain ⟨z, b, off, HZ, rfl, hb, hc⟩ := (H.out.below hbw).ints.get hlt
      by_cases hz : 0 < z
      · have HY := Lib.hid (posT_yes HZ hz)
        have hd : decide (0 < z) = true := by simpa using hz
        go_wp2_with (at_builtin; (refine wpList_more (base := w.heap.size) rfl (.tmp 18) (.tmp 20) rfl hbw.size hO z rfl rfl (by omega) ?_; intro g' c' w7 hO7 hb7))
        go_roundw
        case rel => exact ⟨k + 1, m + 1, c', _, by omega, by go_num, rfl, by omega, by rw [HY.out]; exact hO7, hbw.trans hb7⟩
        case measure => simp [intOf]; omega
      · have HN := Lib.hid (posT_no HZ hz)
        have hd : decide (0 < z) = false := by simpa using hz
        clear hz
        go_wp2
        go_roundw
        case rel => exact ⟨k + 1, m, cc, B, by omega, by go_num, rfl, by omega, by rw [HN.out]; exact hO, hbw⟩
        case measure => simp [intOf]; omega
    · obtain rfl : k = n := by omega
      have HT : Hid (g.take k = g) := Lib.hid (List.take_of_length_le (by have := HGL.out; omega))
      rw [HT.out] at hO
      go_wp2_with fail
      by_cases hm0 : m = 0
      · subst hm0
        have hp0 : posL g = [] := by have := hO.1; simpa using this
        have HS : Hid (srt (posL g) = []) := Lib.hid (by rw [hp0]; simp [srt])
        rw [hp0] at hO
        clear hp0
        refine (Tryz.slices_Sort_int_none B cc _).mono ?_; rintro e w5 ⟨rfl, rfl⟩
        go_wp2
        go_ret
        exact ⟨B, 0, cc, rfl, by rw [HS.out]; exact hO, hbw⟩
      · obtain ⟨G, rfl⟩ := own_block hO (by omega)
        have hl : (posL g).length = m := by have := hO.1; simpa using this
        subst hl
        have hG := hO.lt G rfl
        refine (Tryz.slices_Sort_int G 0 cc (posL g) _ (own_sorted (q := 0) (os := #[]) hO).1 hG.2 (by omega)).mono ?_; rintro e w5 ⟨rfl, q, os, hw5⟩
        have hO5 : w5.ownsRow w.heap.size 3 1 (.slice (some ⟨G, 0, none⟩) (posL g).length cc) (posL g).length ((srt (posL g)).map (Value.int .i64)) := by rw [hw5]; exact (own_sorted hO).2
        have hB5 : Below w.heap.size w w5 := by rw [hw5]; exact hbw.grown (grownBy_sortedI _) hbw.size (fun k hk => by injection hk with hk; subst hk; exact hG.1)
        clear hw5 hO
        go_wp2
        go_ret
        exact ⟨_, _, cc, rfl, hO5, hB5⟩
set_option maxRecDepth 100000 in
set_option maxHeartbeats 4000000 in
theorem hallFind_any (W D n : Nat) (A : Option Addr) (c : Nat) (g : List Int) (id : Int) (w : World) (h : HallAt w W D n A c g) (hid : 1 ≤ id) :
    Calls Tryz.prog 11 #[.agg #[.int .i64 W, .int .i64 D, .slice A n c], .int .i64 id] w (RV w (.int .i64 (Lib.idxOf g id))) := by
  have hn := h.shp.n12
  have hW := Whole.new w 25 [.int .i64 W, .int .i64 D, .slice A n c]
  have hB1 : Below w.heap.size w (w.alloc (.cells #[.int .i64 W, .int .i64 D, .slice A n c] 25)) := (Below.refl _ _).alloc (Nat.le_refl _) _
  have h1 := h.below hB1
  have H := Lib.hid h
  have HGL := Lib.hid h.ints.len
  obtain ⟨b, off, rfl⟩ := h.some
  clear h
  have hd : decide (id < 1) = false := by simp; omega
  go_enter Tryz.func11, Tryz.ntmps11
  go_wp2_with fail
  refine (hallValid_any W D _ n c g _ (by omega) h1.ints).mono ?_; rintro e w3 ⟨rfl, hb3⟩
  rw [H.out.ok]
  have hW3 := hW.below hb3
  have hB3 := below_next hB1 hb3
  clear hW hB1 hb3 h1
  have q2 := hW3.cell 2
  simp only [List.getElem?_cons_zero, List.getElem?_cons_succ] at q2
  go_wp2_with fail
  refine (Tryz.slices_Index_int b off n c g id _ (by rw [HGL.out]; exact Nat.le_refl _) (by omega) ?_).mono ?_
  · intro j hj
    obtain ⟨z, b', off', HZ, hA, hb, hc⟩ := (H.out.below hB3).ints.get (k := j) (by have := HGL.out; omega)
    injection hA with hA; injection hA with e1 e2; subst e1; subst e2
    rw [hc, List.getD_eq_getElem?_getD, HZ.out]; rfl
  rintro e w5 ⟨rfl, rfl⟩
  have HT : Hid (g.take n = g) := Lib.hid (List.take_of_length_le (by have := HGL.out; omega))
  rw [HT.out]
  go_wp2
  go_ret
  exact ⟨rfl, hB3⟩
set_option maxHeartbeats 2000000 in
theorem sameHall_self (wd dp : Int) (A C : Option Addr) (n c m d : Nat) (xs : List Int) (w : World) (hn : n ≤ 9223372036854775807) (hx : IntsAt w A n xs) (hy : IntsAt w C m xs) :
    Calls Tryz.prog 7 #[.agg #[.int .i64 wd, .int .i64 dp, .slice A n c], .agg #[.int .i64 wd, .int .i64 dp, .slice C m d]] w (RV w (.bool true)) := by
  have hB2 : Below w.heap.size w ((w.alloc (.cells #[.int .i64 wd, .int .i64 dp, .slice A n c] 25)).alloc (.cells #[.int .i64 wd, .int .i64 dp, .slice C m d] 25)) := ((Below.refl _ _).alloc (Nat.le_refl _) _).alloc (by simp) _
  have HX := Lib.hid hx
  have HY := Lib.hid hy
  clear hx hy
  go_enter Tryz.func7, Tryz.ntmps7
  go_wp2_with fail
  refine (sameInts_self A C n c m d xs _ hn (HX.out.below hB2) (HY.out.below hB2)).mono ?_; rintro e w3 ⟨rfl, hb3⟩
  go_wp2
  go_ret
  exact ⟨rfl, below_next hB2 hb3⟩
end Go.Proofs.YtdebjcempkgeaaaGreatDoor
