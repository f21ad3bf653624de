/-
  Lists of places: how they lie in memory, PlacesValid of the program and of the reference, and the statements' own helpers on them.
-/
import Derived.Test.YtikhoekdoocjpaaC3
import Derived.Test.YtikhoekdoocjpaaInts
import Derived.Deep.RegionWith
import Derived.Deep.RegionHeld3
namespace Go.Proofs.Ytikhoekdoocjpaa
open Go.ChangeShapes Go.WideShapes Go.ChangeAt Go.RowKit

def PlacesAt (w : World) (A : Option Addr) (n : Nat) (ns : List P3) : Prop := SlAt w 3 A n (pc ns)
theorem PlacesAt.len {w : World} {A : Option Addr} {n : Nat} {ns : List P3} (h : PlacesAt w A n ns) : ns.length = n := by simpa [pc] using SlAt.len h
theorem PlacesAt.below {w w' : World} {A : Option Addr} {n : Nat} {ns : List P3} (h : PlacesAt w A n ns) (hb : Below w.heap.size w w') : PlacesAt w' A n ns := SlAt.below h hb
theorem PlacesAt.get {w : World} {A : Option Addr} {n k : Nat} {ns : List P3} (h : PlacesAt w A n ns) (hk : k < n) :
    ∃ x b off, Hid (ns[k]? = some x) ∧ A = some ⟨b, off, none⟩ ∧ b < w.heap.size ∧ w.cell? ⟨b, off + k * 3, none⟩ = some (.int .i64 x.f) ∧ w.cell? ⟨b, off + k * 3 + 1, none⟩ = some (.int .i64 x.t) ∧
      w.cell? ⟨b, off + k * 3 + 2, none⟩ = some (.int .i64 x.r) := by
  have hl := h.len
  obtain ⟨x, hx⟩ : ∃ x, ns[k]? = some x := ⟨_, List.getElem?_eq_getElem (by omega)⟩
  obtain ⟨b, off, hA, hlt, _, hc⟩ := SlAt.row h k [.int .i64 x.f, .int .i64 x.t, .int .i64 x.r] (by simp [pc, hx])
  exact ⟨x, b, off, hx, hA, hlt, by simpa using hc 0 _ rfl, hc 1 _ rfl, hc 2 _ rfl⟩

theorem sizeIn0_any (x : Int) (w : World) : Calls Try.prog 41 #[.int .i64 x, .int .i64 0] w (RS w (.bool (inB x))) := sizeIn_any x 0 w
theorem l1In09_any (x : Int) (w : World) : Calls Try.prog 39 #[.int .i64 x, .int .i64 0, .int .i64 9] w (RS w (.bool (inB x))) := l1In_any x 0 9 w

set_option maxHeartbeats 1000000 in
theorem placesValid_any (A : Option Addr) (n c : Nat) (ns : List P3) (w : World) (hn : n ≤ 9223372036854775807) (hx : PlacesAt w A n ns) :
    Calls Try.prog 32 #[.slice A n c] w (RV w (.bool (placesB ns))) := by
  have HL := Lib.hid hx.len
  by_cases h5 : 6 < n
  · go_enter Try.func32, Try.ntmps32
    go_wp2
    go_ret
    exact ⟨ret_bool (placesB_long HL.out h5).symm, Below.refl _ _⟩
  go_enter Try.func32, Try.ntmps32
  go_wp2
  go_loopw [10] (fun i wr => ∃ k : Nat, k ≤ n ∧ i = .int .i64 k ∧ (ns.take k).all P3.ok = true ∧ Below w.heap.size w wr) (fun i _ => n - (intOf i).toNat)
  case atStart => exact ⟨0, Nat.zero_le _, rfl, rfl, Below.refl _ _⟩
  case round =>
    obtain ⟨k, hk, rfl, he, hbw⟩ := hrel
    have HE := Lib.hid he
    clear he
    by_cases hlt : k < n
    · obtain ⟨x, b, off, HX, rfl, hb, hc0, hc1, hc2⟩ := (hx.below hbw).get hlt
      have hbe : b ≠ wr.heap.size := by omega
      cases hA : inB x.f
      · have HO := Lib.hid (place_no (p := x) (.inl hA))
        go_wp2_with (go_at_call 41; refine (sizeIn0_any _ _).mono ?_; rintro e w1 ⟨rfl, rfl⟩)
        go_ret
        exact ⟨ret_bool (placesB_bad HX HO.out).symm, hbw.alloc hbw.size _⟩
      cases hB : inB x.t
      · have HO := Lib.hid (place_no (p := x) (.inr (.inl hB)))
        go_wp2_with (go_at_call 41; refine (sizeIn0_any _ _).mono ?_; rintro e w1 ⟨rfl, rfl⟩)
        go_ret
        exact ⟨ret_bool (placesB_bad HX HO.out).symm, hbw.alloc hbw.size _⟩
      cases hC : inB x.r
      · have HO := Lib.hid (place_no (p := x) (.inr (.inr hC)))
        go_wp2_with (go_at_call 41; refine (sizeIn0_any _ _).mono ?_; rintro e w1 ⟨rfl, rfl⟩)
        go_ret
        exact ⟨ret_bool (placesB_bad HX HO.out).symm, hbw.alloc hbw.size _⟩
      · have HO := Lib.hid (place_yes hA hB hC)
        go_wp2_with (go_at_call 41; refine (sizeIn0_any _ _).mono ?_; rintro e w1 ⟨rfl, rfl⟩)
        go_roundw
        case rel => exact ⟨k + 1, by omega, by go_num, by rw [places_next HX, HE.out, HO.out]; rfl, hbw.alloc hbw.size _⟩
        case measure => simp [intOf]; omega
    · go_wp2
      go_ret
      exact ⟨ret_bool (placesB_all HL.out (by omega) HE.out (by omega)).symm, hbw⟩

set_option maxHeartbeats 1000000 in
theorem specPlacesValid_any (A : Option Addr) (n c : Nat) (ns : List P3) (w : World) (hn : n ≤ 9223372036854775807) (hx : PlacesAt w A n ns) :
    Calls Try.prog 29 #[.slice A n c] w (RV w (.bool (placesB ns))) := by
  have HL := Lib.hid hx.len
  go_enter Try.func29, Try.ntmps29
  go_wp2
  go_loopw [3] (fun i wr => ∃ k : Nat, k ≤ n ∧ i = .int .i64 k ∧ (ns.take k).all P3.ok = true ∧ Below w.heap.size w wr) (fun i _ => n - (intOf i).toNat)
  case atStart => exact ⟨0, Nat.zero_le _, rfl, rfl, Below.refl _ _⟩
  case round =>
    obtain ⟨k, hk, rfl, he, hbw⟩ := hrel
    have HE := Lib.hid he
    clear he
    by_cases hlt : k < n
    · obtain ⟨x, b, off, HX, rfl, hb, hc0, hc1, hc2⟩ := (hx.below hbw).get hlt
      have hbe : b ≠ wr.heap.size := by omega
      cases hA : inB x.f
      · have HO := Lib.hid (place_no (p := x) (.inl hA))
        go_wp2_with (go_at_call 39; refine (l1In09_any _ _).mono ?_; rintro e w1 ⟨rfl, rfl⟩)
        go_ret
        exact ⟨ret_bool (placesB_bad HX HO.out).symm, hbw.alloc hbw.size _⟩
      cases hB : inB x.t
      · have HO := Lib.hid (place_no (p := x) (.inr (.inl hB)))
        go_wp2_with (go_at_call 39; refine (l1In09_any _ _).mono ?_; rintro e w1 ⟨rfl, rfl⟩)
        go_ret
        exact ⟨ret_bool (placesB_bad HX HO.out).symm, hbw.alloc hbw.size _⟩
      cases hC : inB x.r
      · have HO := Lib.hid (place_no (p := x) (.inr (.inr hC)))
        go_wp2_with (go_at_call 39; refine (l1In09_any _ _).mono ?_; rintro e w1 ⟨rfl, rfl⟩)
        go_ret
        exact ⟨ret_bool (placesB_bad HX HO.out).symm, hbw.alloc hbw.size _⟩
      · have HO := Lib.hid (place_yes hA hB hC)
        go_wp2_with (go_at_call 39; refine (l1In09_any _ _).mono ?_; rintro e w1 ⟨rfl, rfl⟩)
        go_roundw
        case rel => exact ⟨k + 1, by omega, by go_num, by rw [places_next HX, HE.out, HO.out]; rfl, hbw.alloc hbw.size _⟩
        case measure => simp [intOf]; omega
    · by_cases h5 : n ≤ 6
      · go_wp2
        go_ret
        exact ⟨ret_bool (by rw [placesB_all HL.out (by omega) HE.out h5]; simp; omega), hbw⟩
      · go_wp2
        go_ret
        exact ⟨ret_bool (by rw [placesB_long HL.out (by omega)]; simp; omega), hbw⟩

set_option maxHeartbeats 1000000 in
theorem szPlaceS_any (A : Option Addr) (n c : Nat) (left : Int) (w : World) (hn : n ≤ 9223372036854775807) (h0 : 0 ≤ left) (h1 : left ≤ 1048576) :
    Calls Try.prog 14 #[.slice A n c, .int .i64 left] w (RS w (.int .i64 (if left < n then -1 else left - n))) := by
  by_cases h : left < n
  all_goals
    go_enter Try.func14, Try.ntmps14
    go_wp2
    go_ret
    exact ⟨rfl, rfl⟩

theorem places_info : (Try.prog.info? 54).map (fun i => (i.zero, i.size, i.bytes)) = some (some (.agg #[.int .i64 0, .int .i64 0, .int .i64 0]), 3, 24) := by kernel_rfl
set_option maxHeartbeats 1000000 in
theorem toPlaceS_any (A : Option Addr) (n c : Nat) (ns : List P3) (w : World) (hn : n * 8 ≤ 1073741824) (hx : PlacesAt w A n ns) :
    Calls Try.prog 16 #[.slice A n c] w fun e w' => ∃ A' c', e = .returned (.slice A' n c') ∧ OwnAt w' w.heap.size 54 3 (.slice A' n c') n (pc ns) ∧ Below w.heap.size w w' := by
  have HL := Lib.hid hx.len
  obtain ⟨i0, hi, hz0, hz1, hz2⟩ := info_parts places_info
  go_enter Try.func16, Try.ntmps16
  go_wp2_with (at_make; refine wpList_make_full _ rfl _ _ 36 rfl w.heap.size 54 i0 _ 3 Try.underlying36 hi hz0 hz1 .i64 .i64 _ _ n rfl rfl rfl rfl (by rw [hz2]; omega) (by unfold maxLen; omega) (Nat.le_refl _) ?_; intro w1 hown hg)
  have hB := Joins.below_le (B' := w.heap.size) (Below.grown (Below.refl _ w) hg (Nat.le_refl _) (by simp)) (Nat.le_refl _)
  go_loopw [4] (fun i wr => ∃ k : Nat, k ≤ n ∧ i = .int .i64 k ∧ Fill wr w.heap.size 54 3 n k (pc (ns.take k)) ∧ Below w.heap.size w wr) (fun i _ => n - (intOf i).toNat)
  case atStart => exact ⟨0, Nat.zero_le _, rfl, Fill.start hown, hB⟩
  case round =>
    obtain ⟨k, hk, rfl, hf, hbw⟩ := hrel
    clear hown hg hB
    by_cases hlt : k < n
    · obtain ⟨x, b, off, HX, rfl, hb, hc0, hc1, hc2⟩ := (hx.below hbw).get hlt
      go_wp2_with fail
      refine (toPlace_any _ _ _ _).mono ?_; rintro e w2 ⟨rfl, hb2⟩
      have hf2 := hf.below hb2
      have hbw2 := hbw.trans (hb2.mono hbw.size)
      obtain ⟨u0, hu0⟩ := hf2.cell (j := k * 3) (by omega)
      obtain ⟨u1, hu1⟩ := hf2.cell (j := k * 3 + 1) (by omega)
      obtain ⟨u2, hu2⟩ := hf2.cell (j := k * 3 + 2) (by omega)
      have hz0 := hf2.free (k * 3)
      have hz1 := hf2.free (k * 3 + 1)
      have hz2 := hf2.free (k * 3 + 2)
      go_wp2
      go_roundw
      case rel => exact ⟨k + 1, by omega, by go_num, by rw [take_next HX]; simpa [pc] using hf2.next3 hlt (.int .i64 x.f) (.int .i64 x.t) (.int .i64 x.r), ((hbw2.setCell (Nat.le_refl _) _).setCell (Nat.le_refl _) _).setCell (Nat.le_refl _) _⟩
      case measure => simp [intOf]; omega
    · go_wp2
      go_ret
      have hkn : k = n := by omega
      exact ⟨_, _, rfl, by rw [take_all HL.out (by omega)] at hf; exact hf.done hkn (Nat.le_refl _) (by unfold maxLen; omega), hbw⟩

set_option maxHeartbeats 1000000 in
theorem eqPlace_same (a b c : Int) (w : World) :
    Calls Try.prog 34 #[.agg #[.int .i64 a, .int .i64 b, .int .i64 c], .agg #[.int .i64 a, .int .i64 b, .int .i64 c]] w (RV w (.bool true)) := by
  go_enter Try.func34, Try.ntmps34
  go_wp2
  go_ret
  exact ⟨rfl, ((Below.refl _ _).alloc (Nat.le_refl _) _).alloc (by simp) _⟩

set_option maxHeartbeats 1000000 in
theorem eqPlaceS_same (A C : Option Addr) (n c d : Nat) (ns : List P3) (w : World) (hn : n ≤ 9223372036854775807) (hx : PlacesAt w A n ns) (hy : PlacesAt w C n ns) :
    Calls Try.prog 18 #[.slice A n c, .slice C n d] w (RV w (.bool true)) := by
  go_enter Try.func18, Try.ntmps18
  go_wp2
  go_loopw [5] (fun i wr => ∃ k : Nat, k ≤ n ∧ i = .int .i64 k ∧ Below w.heap.size w wr) (fun i _ => n - (intOf i).toNat)
  case atStart => exact ⟨0, Nat.zero_le _, rfl, Below.refl _ _⟩
  case round =>
    obtain ⟨k, hk, rfl, hbw⟩ := hrel
    by_cases hlt : k < n
    · obtain ⟨x, b, off, HX, rfl, hb, hc0, hc1, hc2⟩ := (hx.below hbw).get hlt
      obtain ⟨y, b', off', HY, rfl, hb', hc0', hc1', hc2'⟩ := (hy.below hbw).get hlt
      obtain rfl : x = y := by have h1 := HX.out; have h2 := HY.out; rw [h1] at h2; injection h2
      have h0i : (0 : Int) ≤ (k : Int) := by omega
      have h1i : (k : Int) < (n : Int) := by omega
      go_wp2
      go_region_held3 (fun w' => w'.cell? ⟨b, off + k * 3, none⟩ = some (.int .i64 x.f) ∧ w'.cell? ⟨b, off + k * 3 + 1, none⟩ = some (.int .i64 x.t) ∧ w'.cell? ⟨b, off + k * 3 + 2, none⟩ = some (.int .i64 x.r) ∧
          w'.cell? ⟨b', off' + k * 3, none⟩ = some (.int .i64 x.f) ∧ w'.cell? ⟨b', off' + k * 3 + 1, none⟩ = some (.int .i64 x.t) ∧ w'.cell? ⟨b', off' + k * 3 + 2, none⟩ = some (.int .i64 x.r) ∧ Below wr.heap.size wr w')
        (first | exact ⟨hc0, hc1, hc2, hc0', hc1', hc2', (Below.refl _ _).drew⟩ | (rename_i hS; exact ⟨(hb1.cell hb).trans hc0, (hb1.cell hb).trans hc1, (hb1.cell hb).trans hc2, (hb1.cell hb').trans hc0', (hb1.cell hb').trans hc1', (hb1.cell hb').trans hc2', (Below.refl _ _).drew.trans hb1⟩))
        (first | (go_at_call 34; refine (eqPlace_same _ _ _ _).mono ?_; rintro e w1 ⟨rfl, hb1⟩))
      have hB1 : Below wr.heap.size wr w1 := (Below.refl _ _).drew.trans hb1
      go_wp2
      go_roundw
      case rel => exact ⟨k + 1, by omega, by go_num, hbw.trans (hB1.mono hbw.size)⟩
      case measure => simp [intOf]; omega
    · go_wp2
      go_ret
      exact ⟨rfl, hbw⟩
end Go.Proofs.Ytikhoekdoocjpaa
