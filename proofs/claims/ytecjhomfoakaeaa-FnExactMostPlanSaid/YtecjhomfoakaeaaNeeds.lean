/-
  Lists of needs: how they lie in memory, NeedsValid of the program and of the reference, and the statements' own helpers on them.
-/
import Derived.Test.YtecjhomfoakaeaaC4
import Derived.Test.YtecjhomfoakaeaaInts
import Derived.Deep.RegionWith
import Derived.Deep.RegionHeld3
namespace Go.Proofs.Ytecjhomfoakaeaa
open Go.ChangeShapes Go.WideShapes Go.ChangeAt Go.RowKit

def NeedsAt (w : World) (A : Option Addr) (n : Nat) (ns : List N4) : Prop := SlAt w 4 A n (nc ns)
theorem NeedsAt.len {w : World} {A : Option Addr} {n : Nat} {ns : List N4} (h : NeedsAt w A n ns) : ns.length = n := by simpa [nc] using SlAt.len h
theorem NeedsAt.below {w w' : World} {A : Option Addr} {n : Nat} {ns : List N4} (h : NeedsAt w A n ns) (hb : Below w.heap.size w w') : NeedsAt w' A n ns := SlAt.below h hb
theorem NeedsAt.get {w : World} {A : Option Addr} {n k : Nat} {ns : List N4} (h : NeedsAt w A n ns) (hk : k < n) :
    ∃ x b off, Hid (ns[k]? = some x) ∧ A = some ⟨b, off, none⟩ ∧ b < w.heap.size ∧ w.cell? ⟨b, off + k * 4, none⟩ = some (.int .i64 x.f) ∧ w.cell? ⟨b, off + k * 4 + 1, none⟩ = some (.int .i64 x.t) ∧
      w.cell? ⟨b, off + k * 4 + 2, none⟩ = some (.int .i64 x.r) ∧ w.cell? ⟨b, off + k * 4 + 3, none⟩ = some (.int .i64 x.u) := by
  have hl := h.len
  obtain ⟨x, hx⟩ : ∃ x, ns[k]? = some x := ⟨_, List.getElem?_eq_getElem (by omega)⟩
  obtain ⟨b, off, hA, hlt, _, hc⟩ := SlAt.row h k [.int .i64 x.f, .int .i64 x.t, .int .i64 x.r, .int .i64 x.u] (by simp [nc, hx])
  exact ⟨x, b, off, hx, hA, hlt, by simpa using hc 0 _ rfl, hc 1 _ rfl, hc 2 _ rfl, hc 3 _ rfl⟩

set_option maxHeartbeats 1000000 in
theorem needsValid_any (A : Option Addr) (n c : Nat) (ns : List N4) (w : World) (hn : n ≤ 9223372036854775807) (hx : NeedsAt w A n ns) :
    Calls Try.prog 27 #[.slice A n c] w (RV w (.bool (needsB ns))) := by
  have HL := Lib.hid hx.len
  by_cases h5 : 5 < n
  · go_enter Try.func27, Try.ntmps27
    go_wp2
    go_ret
    exact ⟨ret_bool (needsB_long HL.out h5).symm, Below.refl _ _⟩
  · go_enter Try.func27, Try.ntmps27
    go_wp2
    go_loopw [10] (fun i wr => ∃ k : Nat, k ≤ n ∧ i = .int .i64 k ∧ (ns.take k).all N4.ok = true ∧ Below w.heap.size w wr) (fun i _ => n - (intOf i).toNat)
    case atStart => exact ⟨0, Nat.zero_le _, rfl, rfl, Below.refl _ _⟩
    case round =>
      obtain ⟨k, hk, rfl, he, hbw⟩ := hrel
      have HE := Lib.hid he
      clear he
      by_cases hlt : k < n
      · obtain ⟨x, b, off, HX, rfl, hb, hc0, hc1, hc2, hc3⟩ := (hx.below hbw).get hlt
        have hbe : b ≠ wr.heap.size := by omega
        cases hok : x.ok
        all_goals
          have HO := Lib.hid hok
          unfold N4.ok at hok
          go_wp2_with (go_at_call 34; refine (needValid_any _ _ _ _ _).mono ?_; rintro e w1 ⟨rfl, hb1⟩)
        · go_ret
          refine ⟨ret_bool (needsB_bad HX HO.out).symm, ?_⟩
          exact hbw.trans ((((Below.refl _ _).alloc (Nat.le_refl _) _).trans (hb1.mono (by simp))).mono hbw.size)
        · go_roundw
          case rel => exact ⟨k + 1, by omega, by go_num, by rw [needsE_next HX, HE.out, HO.out]; rfl, hbw.trans ((((Below.refl _ _).alloc (Nat.le_refl _) _).trans (hb1.mono (by simp))).mono hbw.size)⟩
          case measure => simp [intOf]; omega
      · go_wp2
        go_ret
        exact ⟨ret_bool (needsB_all HL.out (by omega) HE.out (by omega)).symm, hbw⟩

set_option maxHeartbeats 1000000 in
theorem specNeedsValid_any (A : Option Addr) (n c : Nat) (ns : List N4) (w : World) (hn : n ≤ 9223372036854775807) (hx : NeedsAt w A n ns) :
    Calls Try.prog 31 #[.slice A n c] w (RV w (.bool (needsB ns))) := by
  have HL := Lib.hid hx.len
  go_enter Try.func31, Try.ntmps31
  go_wp2
  go_loopw [3] (fun i wr => ∃ k : Nat, k ≤ n ∧ i = .int .i64 k ∧ (ns.take k).all N4.ok = true ∧ Below w.heap.size w wr) (fun i _ => n - (intOf i).toNat)
  case atStart => exact ⟨0, Nat.zero_le _, rfl, rfl, Below.refl _ _⟩
  case round =>
    obtain ⟨k, hk, rfl, he, hbw⟩ := hrel
    have HE := Lib.hid he
    clear he
    by_cases hlt : k < n
    · obtain ⟨x, b, off, HX, rfl, hb, hc0, hc1, hc2, hc3⟩ := (hx.below hbw).get hlt
      cases hok : x.ok
      all_goals
        have HO := Lib.hid hok
        unfold N4.ok at hok
        go_wp2_with (go_at_call 26; refine (specNeedValid_any _ _ _ _ _).mono ?_; rintro e w1 ⟨rfl, hb1⟩)
      · go_ret
        exact ⟨ret_bool (needsB_bad HX HO.out).symm, hbw.trans (hb1.mono hbw.size)⟩
      · go_roundw
        case rel => exact ⟨k + 1, by omega, by go_num, by rw [needsE_next HX, HE.out, HO.out]; rfl, hbw.trans (hb1.mono hbw.size)⟩
        case measure => simp [intOf]; omega
    · by_cases h5 : n ≤ 5
      · go_wp2
        go_ret
        exact ⟨ret_bool (by rw [needsB_all HL.out (by omega) HE.out h5]; simp; omega), hbw⟩
      · go_wp2
        go_ret
        exact ⟨ret_bool (by rw [needsB_long HL.out (by omega)]; simp; omega), hbw⟩

set_option maxHeartbeats 1000000 in
theorem szNeedS_any (A : Option Addr) (n c : Nat) (left : Int) (w : World) (hn : n ≤ 9223372036854775807) (h0 : 0 ≤ left) (h1 : left ≤ 1048576) :
    Calls Try.prog 4 #[.slice A n c, .int .i64 left] w (RS w (.int .i64 (if left < n then -1 else left - n))) := by
  by_cases h : left < n
  all_goals
    go_enter Try.func4, Try.ntmps4
    go_wp2
    go_ret
    exact ⟨rfl, rfl⟩

theorem needs_info : (Try.prog.info? 40).map (fun i => (i.zero, i.size, i.bytes)) = some (some (.agg #[.int .i64 0, .int .i64 0, .int .i64 0, .int .i64 0]), 4, 32) := by kernel_rfl
set_option maxHeartbeats 1000000 in
theorem toNeedS_any (A : Option Addr) (n c : Nat) (ns : List N4) (w : World) (hn : n * 8 ≤ 1073741824) (hx : NeedsAt w A n ns) :
    Calls Try.prog 6 #[.slice A n c] w fun e w' => ∃ A' c', e = .returned (.slice A' n c') ∧ OwnAt w' w.heap.size 40 4 (.slice A' n c') n (nc ns) ∧ Below w.heap.size w w' := by
  have HL := Lib.hid hx.len
  obtain ⟨i0, hi, hz0, hz1, hz2⟩ := info_parts needs_info
  go_enter Try.func6, Try.ntmps6
  go_wp2_with (at_make; refine wpList_make_full _ rfl _ _ 27 rfl w.heap.size 40 i0 _ 4 Try.underlying27 hi hz0 hz1 .i64 .i64 _ _ n rfl rfl rfl rfl (by rw [hz2]; omega) (by unfold maxLen; omega) (Nat.le_refl _) ?_; intro w1 hown hg)
  have hB := Joins.below_le (B' := w.heap.size) (Below.grown (Below.refl _ w) hg (Nat.le_refl _) (by simp)) (Nat.le_refl _)
  go_loopw [4] (fun i wr => ∃ k : Nat, k ≤ n ∧ i = .int .i64 k ∧ Fill wr w.heap.size 40 4 n k (nc (ns.take k)) ∧ Below w.heap.size w wr) (fun i _ => n - (intOf i).toNat)
  case atStart => exact ⟨0, Nat.zero_le _, rfl, Fill.start hown, hB⟩
  case round =>
    obtain ⟨k, hk, rfl, hf, hbw⟩ := hrel
    clear hown hg hB
    by_cases hlt : k < n
    · obtain ⟨x, b, off, HX, rfl, hb, hc0, hc1, hc2, hc3⟩ := (hx.below hbw).get hlt
      go_wp2_with fail
      refine (toNeed_any _ _ _ _ _).mono ?_; rintro e w2 ⟨rfl, hb2⟩
      have hf2 := hf.below hb2
      have hbw2 := hbw.trans (hb2.mono hbw.size)
      obtain ⟨u0, hu0⟩ := hf2.cell (j := k * 4) (by omega)
      obtain ⟨u1, hu1⟩ := hf2.cell (j := k * 4 + 1) (by omega)
      obtain ⟨u2, hu2⟩ := hf2.cell (j := k * 4 + 2) (by omega)
      obtain ⟨u3, hu3⟩ := hf2.cell (j := k * 4 + 3) (by omega)
      have hz0 := hf2.free (k * 4)
      have hz1 := hf2.free (k * 4 + 1)
      have hz2 := hf2.free (k * 4 + 2)
      have hz3 := hf2.free (k * 4 + 3)
      go_wp2
      go_roundw
      case rel => exact ⟨k + 1, by omega, by go_num, by rw [take_next HX]; simpa [nc] using hf2.next4 hlt (.int .i64 x.f) (.int .i64 x.t) (.int .i64 x.r) (.int .i64 x.u), (((hbw2.setCell (Nat.le_refl _) _).setCell (Nat.le_refl _) _).setCell (Nat.le_refl _) _).setCell (Nat.le_refl _) _⟩
      case measure => simp [intOf]; omega
    · go_wp2
      go_ret
      have hkn : k = n := by omega
      exact ⟨_, _, rfl, by rw [take_all HL.out (by omega)] at hf; exact hf.done hkn (Nat.le_refl _) (by unfold maxLen; omega), hbw⟩

set_option maxHeartbeats 1000000 in
theorem eqNeed_same (a b c d : Int) (w : World) :
    Calls Try.prog 23 #[.agg #[.int .i64 a, .int .i64 b, .int .i64 c, .int .i64 d], .agg #[.int .i64 a, .int .i64 b, .int .i64 c, .int .i64 d]] w (RV w (.bool true)) := by
  go_enter Try.func23, Try.ntmps23
  go_wp2
  go_ret
  exact ⟨rfl, ((Below.refl _ _).alloc (Nat.le_refl _) _).alloc (by simp) _⟩

set_option maxHeartbeats 1000000 in
theorem eqNeedS_same (A C : Option Addr) (n c d : Nat) (ns : List N4) (w : World) (hn : n ≤ 9223372036854775807) (hx : NeedsAt w A n ns) (hy : NeedsAt w C n ns) :
    Calls Try.prog 10 #[.slice A n c, .slice C n d] w (RV w (.bool true)) := by
  go_enter Try.func10, Try.ntmps10
  go_wp2
  go_loopw [5] (fun i wr => ∃ k : Nat, k ≤ n ∧ i = .int .i64 k ∧ Below w.heap.size w wr) (fun i _ => n - (intOf i).toNat)
  case atStart => exact ⟨0, Nat.zero_le _, rfl, Below.refl _ _⟩
  case round =>
    obtain ⟨k, hk, rfl, hbw⟩ := hrel
    by_cases hlt : k < n
    · obtain ⟨x, b, off, HX, rfl, hb, hc0, hc1, hc2, hc3⟩ := (hx.below hbw).get hlt
      obtain ⟨y, b', off', HY, rfl, hb', hc0', hc1', hc2', hc3'⟩ := (hy.below hbw).get hlt
      obtain rfl : x = y := by have h1 := HX.out; have h2 := HY.out; rw [h1] at h2; injection h2
      have h0i : (0 : Int) ≤ (k : Int) := by omega
      have h1i : (k : Int) < (n : Int) := by omega
      go_wp2
      go_region_held3 (fun w' => w'.cell? ⟨b, off + k * 4, none⟩ = some (.int .i64 x.f) ∧ w'.cell? ⟨b, off + k * 4 + 1, none⟩ = some (.int .i64 x.t) ∧ w'.cell? ⟨b, off + k * 4 + 2, none⟩ = some (.int .i64 x.r) ∧ w'.cell? ⟨b, off + k * 4 + 3, none⟩ = some (.int .i64 x.u) ∧
          w'.cell? ⟨b', off' + k * 4, none⟩ = some (.int .i64 x.f) ∧ w'.cell? ⟨b', off' + k * 4 + 1, none⟩ = some (.int .i64 x.t) ∧ w'.cell? ⟨b', off' + k * 4 + 2, none⟩ = some (.int .i64 x.r) ∧ w'.cell? ⟨b', off' + k * 4 + 3, none⟩ = some (.int .i64 x.u) ∧ Below wr.heap.size wr w')
        (first | exact ⟨hc0, hc1, hc2, hc3, hc0', hc1', hc2', hc3', (Below.refl _ _).drew⟩ | (rename_i hS; exact ⟨(hb1.cell hb).trans hc0, (hb1.cell hb).trans hc1, (hb1.cell hb).trans hc2, (hb1.cell hb).trans hc3, (hb1.cell hb').trans hc0', (hb1.cell hb').trans hc1', (hb1.cell hb').trans hc2', (hb1.cell hb').trans hc3', (Below.refl _ _).drew.trans hb1⟩))
        (first | (go_at_call 23; refine (eqNeed_same _ _ _ _ _).mono ?_; rintro e w1 ⟨rfl, hb1⟩))
      have hB1 : Below wr.heap.size wr w1 := (Below.refl _ _).drew.trans hb1
      go_wp2
      go_roundw
      case rel => exact ⟨k + 1, by omega, by go_num, hbw.trans (hB1.mono hbw.size)⟩
      case measure => simp [intOf]; omega
    · go_wp2
      go_ret
      exact ⟨rfl, hbw⟩
end Go.Proofs.Ytecjhomfoakaeaa
