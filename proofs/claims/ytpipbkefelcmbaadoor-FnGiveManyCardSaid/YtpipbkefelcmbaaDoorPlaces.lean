/-
  Lists of places: how they lie in memory, PlacesValid of the program and of the reference, and the statements' own helpers on them.
-/
import Derived.Test.YtpipbkefelcmbaaDoorC3
import Derived.Test.YtpipbkefelcmbaaDoorInts
import Derived.Deep.RegionWith
import Derived.Deep.RegionHeld3
namespace Go.Proofs.YtpipbkefelcmbaaDoor
open Go.ChangeShapes Go.WideShapes Go.ChangeAt Go.RowKit

def PlacesAt (w : World) (A : Option Addr) (n : Nat) (ns : List P3) : Prop := SlAt w 3 A n (pc ns)
theorem PlacesAt.len {w : World} {A : Option Addr} {n : Nat} {ns : List P3} (h : PlacesAt w A n ns) : ns.length = n := by simpa [pc] using SlAt.len h
theorem PlacesAt.below {w w' : World} {A : Option Addr} {n : Nat} {ns : List P3} (h : PlacesAt w A n ns) (hb : Below w.heap.size w w') : PlacesAt w' A n ns := SlAt.below h hb
theorem PlacesAt.get {w : World} {A : Option Addr} {n k : Nat} {ns : List P3} (h : PlacesAt w A n ns) (hk : k < n) :
    ∃ x b off, Hid (ns[k]? = some x) ∧ A = some ⟨b, off, none⟩ ∧ b < w.heap.size ∧ w.cell? ⟨b, off + k * 3, none⟩ = some (.int .i64 x.f) ∧ w.cell? ⟨b, off + k * 3 + 1, none⟩ = some (.int .i64 x.t) ∧
      w.cell? ⟨b, off + k * 3 + 2, none⟩ = some (.int .i64 x.r) := by
  have hl := h.len
  obtain ⟨x, hx⟩ : ∃ x, ns[k]? = some x := ⟨_, List.getElem?_eq_getElem (by omega)⟩
  obtain ⟨b, off, hA, hlt, _, hc⟩ := SlAt.row h k [.int .i64 x.f, .int .i64 x.t, .int .i64 x.r] (by simp [pc, hx])
  exact ⟨x, b, off, hx, hA, hlt, by simpa using hc 0 _ rfl, hc 1 _ rfl, hc 2 _ rfl⟩

theorem sizeIn0_any (x : Int) (w : World) : Calls Tryd.prog 43 #[.int .i64 x, .int .i64 0] w (RS w (.bool (inB x))) := sizeIn_any x 0 w
theorem l1In09_any (x : Int) (w : World) : Calls Tryd.prog 44 #[.int .i64 x, .int .i64 0, .int .i64 9] w (RS w (.bool (inB x))) := l1In_any x 0 9 w

set_option maxHeartbeats 1000000 in
theorem placesValid_any (A : Option Addr) (n c : Nat) (ns : List P3) (w : World) (hn : n ≤ 9223372036854775807) (hx : PlacesAt w A n ns) :
    Calls Tryd.prog 19 #[.slice A n c] w (RV w (.bool (placesB ns))) := by
  have HL := Lib.hid hx.len
  by_cases h5 : 6 < n
  · go_enter Tryd.func19, Tryd.ntmps19
    go_wp2
    go_ret
    exact ⟨ret_bool (placesB_long HL.out h5).symm, Below.refl _ _⟩
  go_enter Tryd.func19, Tryd.ntmps19
  go_wp2
  go_loopw [10] (fun i wr => ∃ k : Nat, k ≤ n ∧ i = .int .i64 k ∧ (ns.take k).all P3.ok = true ∧ Below w.heap.size w wr) (fun i _ => n - (intOf i).toNat)
  case atStart => exact ⟨0, Nat.zero_le _, rfl, rfl, Below.refl _ _⟩
  case round =>
    obtain ⟨k, hk, rfl, he, hbw⟩ := hrel
    have HE := Lib.hid he
    clear he
    by_cases hlt : k < n
    · obtain ⟨x, b, off, HX, rfl, hb, hc0, hc1, hc2⟩ := (hx.below hbw).get hlt
      have hbe : b ≠ wr.heap.size := by omega
      cases hA : inB x.f
      · have HO := Lib.hid (place_no (p := x) (.inl hA))
        go_wp2_with (go_at_call 43; refine (sizeIn0_any _ _).mono ?_; rintro e w1 ⟨rfl, rfl⟩)
        go_ret
        exact ⟨ret_bool (placesB_bad HX HO.out).symm, hbw.alloc hbw.size _⟩
      cases hB : inB x.t
      · have HO := Lib.hid (place_no (p := x) (.inr (.inl hB)))
        go_wp2_with (go_at_call 43; refine (sizeIn0_any _ _).mono ?_; rintro e w1 ⟨rfl, rfl⟩)
        go_ret
        exact ⟨ret_bool (placesB_bad HX HO.out).symm, hbw.alloc hbw.size _⟩
      cases hC : inB x.r
      · have HO := Lib.hid (place_no (p := x) (.inr (.inr hC)))
        go_wp2_with (go_at_call 43; refine (sizeIn0_any _ _).mono ?_; rintro e w1 ⟨rfl, rfl⟩)
        go_ret
        exact ⟨ret_bool (placesB_bad HX HO.out).symm, hbw.alloc hbw.size _⟩
      · have HO := Lib.hid (place_yes hA hB hC)
        go_wp2_with (go_at_call 43; refine (sizeIn0_any _ _).mono ?_; rintro e w1 ⟨rfl, rfl⟩)
        go_roundw
        case rel => exact ⟨k + 1, by omega, by go_num, by rw [places_next HX, HE.out, HO.out]; rfl, hbw.alloc hbw.size _⟩
        case measure => simp [intOf]; omega
    · go_wp2
      go_ret
      exact ⟨ret_bool (placesB_all HL.out (by omega) HE.out (by omega)).symm, hbw⟩

set_option maxHeartbeats 1000000 in
theorem specPlacesValid_any (A : Option Addr) (n c : Nat) (ns : List P3) (w : World) (hn : n ≤ 9223372036854775807) (hx : PlacesAt w A n ns) :
    Calls Tryd.prog 20 #[.slice A n c] w (RV w (.bool (placesB ns))) := by
  have HL := Lib.hid hx.len
  go_enter Tryd.func20, Tryd.ntmps20
  go_wp2
  go_loopw [3] (fun i wr => ∃ k : Nat, k ≤ n ∧ i = .int .i64 k ∧ (ns.take k).all P3.ok = true ∧ Below w.heap.size w wr) (fun i _ => n - (intOf i).toNat)
  case atStart => exact ⟨0, Nat.zero_le _, rfl, rfl, Below.refl _ _⟩
  case round =>
    obtain ⟨k, hk, rfl, he, hbw⟩ := hrel
    have HE := Lib.hid he
    clear he
    by_cases hlt : k < n
    · obtain ⟨x, b, off, HX, rfl, hb, hc0, hc1, hc2⟩ := (hx.below hbw).get hlt
      have hbe : b ≠ wr.heap.size := by omega
      cases hA : inB x.f
      · have HO := Lib.hid (place_no (p := x) (.inl hA))
        go_wp2_with (go_at_call 44; refine (l1In09_any _ _).mono ?_; rintro e w1 ⟨rfl, rfl⟩)
        go_ret
        exact ⟨ret_bool (placesB_bad HX HO.out).symm, hbw.alloc hbw.size _⟩
      cases hB : inB x.t
      · have HO := Lib.hid (place_no (p := x) (.inr (.inl hB)))
        go_wp2_with (go_at_call 44; refine (l1In09_any _ _).mono ?_; rintro e w1 ⟨rfl, rfl⟩)
        go_ret
        exact ⟨ret_bool (placesB_bad HX HO.out).symm, hbw.alloc hbw.size _⟩
      cases hC : inB x.r
      · have HO := Lib.hid (place_no (p := x) (.inr (.inr hC)))
        go_wp2_with (go_at_call 44; refine (l1In09_any _ _).mono ?_; rintro e w1 ⟨rfl, rfl⟩)
        go_ret
        exact ⟨ret_bool (placesB_bad HX HO.out).symm, hbw.alloc hbw.size _⟩
      · have HO := Lib.hid (place_yes hA hB hC)
        go_wp2_with (go_at_call 44; refine (l1In09_any _ _).mono ?_; rintro e w1 ⟨rfl, rfl⟩)
        go_roundw
        case rel => exact ⟨k + 1, by omega, by go_num, by rw [places_next HX, HE.out, HO.out]; rfl, hbw.alloc hbw.size _⟩
        case measure => simp [intOf]; omega
    · by_cases h5 : n ≤ 6
      · go_wp2
        go_ret
        exact ⟨ret_bool (by rw [placesB_all HL.out (by omega) HE.out h5]; simp; omega), hbw⟩
      · go_wp2
        go_ret
        exact ⟨ret_bool (by rw [placesB_long HL.out (by omega)]; simp; omega), hbw⟩


end Go.Proofs.YtpipbkefelcmbaaDoor
