/-
  Lists of needs: how they lie in memory, NeedsValid of the program and of the reference, and the statements' own helpers on them.
-/
import Derived.Test.YtobkljhbmeglpaaDoorC4
import Derived.Test.YtobkljhbmeglpaaDoorInts
import Derived.Deep.RegionWith
import Derived.Deep.RegionHeld3
namespace Go.Proofs.YtobkljhbmeglpaaDoor
open Go.ChangeShapes Go.WideShapes Go.ChangeAt Go.RowKit

def NeedsAt (w : World) (A : Option Addr) (n : Nat) (ns : List N4) : Prop := SlAt w 4 A n (nc ns)
theorem NeedsAt.len {w : World} {A : Option Addr} {n : Nat} {ns : List N4} (h : NeedsAt w A n ns) : ns.length = n := by simpa [nc] using SlAt.len h
theorem NeedsAt.below {w w' : World} {A : Option Addr} {n : Nat} {ns : List N4} (h : NeedsAt w A n ns) (hb : Below w.heap.size w w') : NeedsAt w' A n ns := SlAt.below h hb
theorem NeedsAt.get {w : World} {A : Option Addr} {n k : Nat} {ns : List N4} (h : NeedsAt w A n ns) (hk : k < n) :
    ∃ x b off, Hid (ns[k]? = some x) ∧ A = some ⟨b, off, none⟩ ∧ b < w.heap.size ∧ w.cell? ⟨b, off + k * 4, none⟩ = some (.int .i64 x.f) ∧ w.cell? ⟨b, off + k * 4 + 1, none⟩ = some (.int .i64 x.t) ∧
      w.cell? ⟨b, off + k * 4 + 2, none⟩ = some (.int .i64 x.r) ∧ w.cell? ⟨b, off + k * 4 + 3, none⟩ = some (.int .i64 x.u) := by
  have hl := h.len
  obtain ⟨x, hx⟩ : ∃ x, ns[k]? = some x := ⟨_, List.getElem?_eq_getElem (by omega)⟩
  obtain ⟨b, off, hA, hlt, _, hc⟩ := SlAt.row h k [.int .i64 x.f, .int .i64 x.t, .int .i64 x.r, .int .i64 x.u] (by simp [nc, hx])
  exact ⟨x, b, off, hx, hA, hlt, by simpa using hc 0 _ rfl, hc 1 _ rfl, hc 2 _ rfl, hc 3 _ rfl⟩

set_option maxHeartbeats 1000000 in
theorem needsValid_any (A : Option Addr) (n c : Nat) (ns : List N4) (w : World) (hn : n ≤ 9223372036854775807) (hx : NeedsAt w A n ns) :
    Calls Tryd.prog 24 #[.slice A n c] w (RV w (.bool (needsB ns))) := by
  have HL := Lib.hid hx.len
  by_cases h5 : 5 < n
  · go_enter Tryd.func24, Tryd.ntmps24
    go_wp2
    go_ret
    exact ⟨ret_bool (needsB_long HL.out h5).symm, Below.refl _ _⟩
  · go_enter Tryd.func24, Tryd.ntmps24
    go_wp2
    go_loopw [10] (fun i wr => ∃ k : Nat, k ≤ n ∧ i = .int .i64 k ∧ (ns.take k).all N4.ok = true ∧ Below w.heap.size w wr) (fun i _ => n - (intOf i).toNat)
    case atStart => exact ⟨0, Nat.zero_le _, rfl, rfl, Below.refl _ _⟩
    case round =>
      obtain ⟨k, hk, rfl, he, hbw⟩ := hrel
      have HE := Lib.hid he
      clear he
      by_cases hlt : k < n
      · obtain ⟨x, b, off, HX, rfl, hb, hc0, hc1, hc2, hc3⟩ := (hx.below hbw).get hlt
        have hbe : b ≠ wr.heap.size := by omega
        cases hok : x.ok
        all_goals
          have HO := Lib.hid hok
          unfold N4.ok at hok
          go_wp2_with (go_at_call 14; refine (needValid_any _ _ _ _ _).mono ?_; rintro e w1 ⟨rfl, hb1⟩)
        · go_ret
          refine ⟨ret_bool (needsB_bad HX HO.out).symm, ?_⟩
          exact hbw.trans ((((Below.refl _ _).alloc (Nat.le_refl _) _).trans (hb1.mono (by simp))).mono hbw.size)
        · go_roundw
          case rel => exact ⟨k + 1, by omega, by go_num, by rw [needsE_next HX, HE.out, HO.out]; rfl, hbw.trans ((((Below.refl _ _).alloc (Nat.le_refl _) _).trans (hb1.mono (by simp))).mono hbw.size)⟩
          case measure => simp [intOf]; omega
      · go_wp2
        go_ret
        exact ⟨ret_bool (needsB_all HL.out (by omega) HE.out (by omega)).symm, hbw⟩

set_option maxHeartbeats 1000000 in
theorem specNeedsValid_any (A : Option Addr) (n c : Nat) (ns : List N4) (w : World) (hn : n ≤ 9223372036854775807) (hx : NeedsAt w A n ns) :
    Calls Tryd.prog 25 #[.slice A n c] w (RV w (.bool (needsB ns))) := by
  have HL := Lib.hid hx.len
  go_enter Tryd.func25, Tryd.ntmps25
  go_wp2
  go_loopw [3] (fun i wr => ∃ k : Nat, k ≤ n ∧ i = .int .i64 k ∧ (ns.take k).all N4.ok = true ∧ Below w.heap.size w wr) (fun i _ => n - (intOf i).toNat)
  case atStart => exact ⟨0, Nat.zero_le _, rfl, rfl, Below.refl _ _⟩
  case round =>
    obtain ⟨k, hk, rfl, he, hbw⟩ := hrel
    have HE := Lib.hid he
    clear he
    by_cases hlt : k < n
    · obtain ⟨x, b, off, HX, rfl, hb, hc0, hc1, hc2, hc3⟩ := (hx.below hbw).get hlt
      cases hok : x.ok
      all_goals
        have HO := Lib.hid hok
        unfold N4.ok at hok
        go_wp2_with (go_at_call 15; refine (specNeedValid_any _ _ _ _ _).mono ?_; rintro e w1 ⟨rfl, hb1⟩)
      · go_ret
        exact ⟨ret_bool (needsB_bad HX HO.out).symm, hbw.trans (hb1.mono hbw.size)⟩
      · go_roundw
        case rel => exact ⟨k + 1, by omega, by go_num, by rw [needsE_next HX, HE.out, HO.out]; rfl, hbw.trans (hb1.mono hbw.size)⟩
        case measure => simp [intOf]; omega
    · by_cases h5 : n ≤ 5
      · go_wp2
        go_ret
        exact ⟨ret_bool (by rw [needsB_all HL.out (by omega) HE.out h5]; simp; omega), hbw⟩
      · go_wp2
        go_ret
        exact ⟨ret_bool (by rw [needsB_long HL.out (by omega)]; simp; omega), hbw⟩


end Go.Proofs.YtobkljhbmeglpaaDoor
