/-
  Plans (lists of lists of numbers): how they lie in memory; PlanAll and PlanLoad of the program and of the reference; the statements' own helpers on them.
-/
import Derived.Test.YtobkljhbmeglpaaDoorInts
import Derived.Test.YtobkljhbmeglpaaDoorSum
import Derived.Deep.RegionWith
import Derived.Deep.RegionHeld3
namespace Go.Proofs.YtobkljhbmeglpaaDoor
open Go.ChangeShapes Go.WideShapes Go.ChangeAt Go.RowKit

structure RowsAt (w : World) (A : Option Addr) (n : Nat) (rows : List (List Int)) : Prop where
  len : rows.length = n
  row : ∀ k r, rows[k]? = some r → ∃ b off A' c', A = some ⟨b, off, none⟩ ∧ b < w.heap.size ∧ w.cell? ⟨b, off + k, none⟩ = some (.slice A' r.length c') ∧ IntsAt w A' r.length r ∧ r.length ≤ 9223372036854775807
theorem RowsAt.below {w w' : World} {A : Option Addr} {n : Nat} {rows : List (List Int)} (h : RowsAt w A n rows) (hb : Below w.heap.size w w') : RowsAt w' A n rows :=
  ⟨h.len, fun k r hr => by
    obtain ⟨b, off, A', c', hA, hlt, hc, hi, hl⟩ := h.row k r hr
    exact ⟨b, off, A', c', hA, Nat.lt_of_lt_of_le hlt hb.size, (hb.cell (p := ⟨b, off + k, none⟩) hlt).trans hc, hi.below hb, hl⟩⟩
theorem RowsAt.get {w : World} {A : Option Addr} {n k : Nat} {rows : List (List Int)} (h : RowsAt w A n rows) (hk : k < n) :
    ∃ r b off A' c' l, Hid (rows[k]? = some r) ∧ Hid (r.length = l) ∧ A = some ⟨b, off, none⟩ ∧ b < w.heap.size ∧ w.cell? ⟨b, off + k, none⟩ = some (.slice A' l c') ∧ IntsAt w A' l r ∧ l ≤ 9223372036854775807 := by
  have hl := h.len
  obtain ⟨r, hr⟩ : ∃ r, rows[k]? = some r := ⟨_, List.getElem?_eq_getElem (by omega)⟩
  obtain ⟨b, off, A', c', hA, hlt, hc, hi, hm⟩ := h.row k r hr
  exact ⟨r, b, off, A', c', r.length, hr, rfl, hA, hlt, hc, hi, hm⟩
theorem Below.drewAll {B : Nat} {w : World} (n : Nat) : Below B w (w.drewN n) := below_drewN (Below.refl _ _) n

/-- What a plan gives in all: as Go's int has it. -/
def allW (rows : List (List Int)) : Int := rows.foldl (fun s r => wrap64 (s + sumW r)) 0
theorem allW_next {rows : List (List Int)} {k : Nat} {r : List Int} (h : Hid (rows[k]? = some r)) : allW (rows.take (k + 1)) = wrap64 (allW (rows.take k) + sumW r) := by
  rw [take_next h]; simp [allW]
set_option maxHeartbeats 1000000 in
theorem planAll_any (A : Option Addr) (n c : Nat) (rows : List (List Int)) (w : World) (hn : n ≤ 9223372036854775807) (hx : RowsAt w A n rows) :
    Calls Tryd.prog 42 #[.slice A n c] w (RS w (.int .i64 (allW rows))) := by
  have HL := Lib.hid hx.len
  go_enter Tryd.func42, Tryd.ntmps42
  go_wp2
  go_loop [3, 8] (fun s i => ∃ k : Nat, k ≤ n ∧ i = .int .i64 k ∧ s = .int .i64 (allW (rows.take k))) (fun _ i => n - (intOf i).toNat)
  case atStart => exact ⟨0, Nat.zero_le _, rfl, rfl⟩
  case round =>
    obtain ⟨k, hk, rfl, rfl⟩ := hrel
    by_cases hlt : k < n
    · obtain ⟨r, b, off, A', c', l, HX, Hl, rfl, hb, hc, hi, hm⟩ := hx.get hlt
      go_wp2_with (go_at_call 27; refine (planUnits_any _ _ _ _ _ hm hi).mono ?_; rintro e w1 ⟨rfl, rfl⟩)
      go_round
      case rel => exact ⟨k + 1, by omega, by go_num, by rw [allW_next HX]⟩
      case measure => simp [intOf]; omega
    · go_wp2
      go_ret
      exact ⟨ret_int (by rw [take_all HL.out (by omega)]), rfl⟩
set_option maxHeartbeats 1000000 in
theorem specPlanAll_any (A : Option Addr) (n c : Nat) (rows : List (List Int)) (w : World) (hn : n ≤ 9223372036854775807) (hx : RowsAt w A n rows) :
    Calls Tryd.prog 43 #[.slice A n c] w (RS w (.int .i64 (allW rows))) := by
  have HL := Lib.hid hx.len
  go_enter Tryd.func43, Tryd.ntmps43
  go_wp2
  go_loop [3, 4] (fun s i => ∃ k : Nat, k ≤ n ∧ i = .int .i64 k ∧ s = .int .i64 (allW (rows.take k))) (fun _ i => n - (intOf i).toNat)
  case atStart => exact ⟨0, Nat.zero_le _, rfl, rfl⟩
  case round =>
    obtain ⟨k, hk, rfl, rfl⟩ := hrel
    by_cases hlt : k < n
    · obtain ⟨r, b, off, A', c', l, HX, Hl, rfl, hb, hc, hi, hm⟩ := hx.get hlt
      go_wp2_with (go_at_call 28; refine (specPlanUnits_any _ _ _ _ _ hm hi).mono ?_; rintro e w1 ⟨rfl, rfl⟩)
      go_round
      case rel => exact ⟨k + 1, by omega, by go_num, by rw [allW_next HX]⟩
      case measure => simp [intOf]; omega
    · go_wp2
      go_ret
      exact ⟨ret_int (by rw [take_all HL.out (by omega)]), rfl⟩

/-- What all cars of a plan get in an hour: as Go's int has it. -/
def atHour (h : Int) (r : List Int) : Int := if 0 ≤ h ∧ h < r.length then r.getD h.toNat 0 else 0
def loadW (h : Int) (rows : List (List Int)) : Int := rows.foldl (fun s r => if 0 ≤ h ∧ h < r.length then wrap64 (s + r.getD h.toNat 0) else s) 0
theorem loadW_next {h : Int} {rows : List (List Int)} {k : Nat} {r : List Int} (hr : Hid (rows[k]? = some r)) :
    loadW h (rows.take (k + 1)) = if 0 ≤ h ∧ h < r.length then wrap64 (loadW h (rows.take k) + r.getD h.toNat 0) else loadW h (rows.take k) := by
  rw [take_next hr]; simp [loadW]
set_option maxHeartbeats 1000000 in
theorem planLoad_any (A : Option Addr) (n c : Nat) (rows : List (List Int)) (h : Int) (w : World) (hn : n ≤ 9223372036854775807) (hx : RowsAt w A n rows) :
    Calls Tryd.prog 45 #[.slice A n c, .int .i64 h] w (RS w (.int .i64 (loadW h rows))) := by
  have HL := Lib.hid hx.len
  go_enter Tryd.func45, Tryd.ntmps45
  go_wp2
  go_loop [5, 10] (fun s i => ∃ k : Nat, k ≤ n ∧ i = .int .i64 k ∧ s = .int .i64 (loadW h (rows.take k))) (fun _ i => n - (intOf i).toNat)
  case atStart => exact ⟨0, Nat.zero_le _, rfl, rfl⟩
  case round =>
    obtain ⟨k, hk, rfl, rfl⟩ := hrel
    by_cases hlt : k < n
    · obtain ⟨r, b, off, A', c', l, HX, Hl, rfl, hb, hc, hi, hm⟩ := hx.get hlt
      by_cases h0 : 0 ≤ h
      · by_cases h1 : h < (l : Int)
        · obtain ⟨q, rfl⟩ := Int.eq_ofNat_of_zero_le h0
          obtain ⟨x, b', off', HX', rfl, hb', hc'⟩ := hi.get (k := q) (by omega)
          go_wp2
          go_round
          case rel => exact ⟨k + 1, by omega, by go_num, by rw [loadW_next HX, if_pos (by rw [Hl.out]; omega), List.getD_eq_getElem?_getD, Int.toNat_natCast, HX'.out]; rfl⟩
          case measure => simp [intOf]; omega
        · go_wp2
          go_round
          case rel => exact ⟨k + 1, by omega, by go_num, by rw [loadW_next HX, if_neg (by rw [Hl.out]; omega)]⟩
          case measure => simp [intOf]; omega
      · go_wp2
        go_round
        case rel => exact ⟨k + 1, by omega, by go_num, by rw [loadW_next HX, if_neg (by omega)]⟩
        case measure => simp [intOf]; omega
    · go_wp2
      go_ret
      exact ⟨ret_int (by rw [take_all HL.out (by omega)]), rfl⟩
set_option maxHeartbeats 1000000 in
theorem specPlanLoad_any (A : Option Addr) (n c : Nat) (rows : List (List Int)) (h : Int) (w : World) (hn : n ≤ 9223372036854775807) (hx : RowsAt w A n rows) :
    Calls Tryd.prog 46 #[.slice A n c, .int .i64 h] w (RS w (.int .i64 (loadW h rows))) := by
  have HL := Lib.hid hx.len
  go_enter Tryd.func46, Tryd.ntmps46
  go_wp2
  go_loop [5, 6] (fun s i => ∃ k : Nat, k ≤ n ∧ i = .int .i64 k ∧ s = .int .i64 (loadW h (rows.take k))) (fun _ i => n - (intOf i).toNat)
  case atStart => exact ⟨0, Nat.zero_le _, rfl, rfl⟩
  case round =>
    obtain ⟨k, hk, rfl, rfl⟩ := hrel
    by_cases hlt : k < n
    · obtain ⟨r, b, off, A', c', l, HX, Hl, rfl, hb, hc, hi, hm⟩ := hx.get hlt
      by_cases h0 : 0 ≤ h
      · by_cases h1 : h < (l : Int)
        · obtain ⟨q, rfl⟩ := Int.eq_ofNat_of_zero_le h0
          obtain ⟨x, b', off', HX', rfl, hb', hc'⟩ := hi.get (k := q) (by omega)
          have h2 : (q : Int) ≤ (l : Int) - 1 := by omega
          go_wp2_with (go_at_call 49; refine (l1In_any _ _ _ _).mono ?_; rintro e w1 ⟨rfl, rfl⟩)
          go_round
          case rel => exact ⟨k + 1, by omega, by go_num, by rw [loadW_next HX, if_pos (by rw [Hl.out]; omega), List.getD_eq_getElem?_getD, Int.toNat_natCast, HX'.out]; rfl⟩
          case measure => simp [intOf]; omega
        · have h2 : decide (h ≤ (l : Int) - 1) = false := by simp; omega
          go_wp2_with (go_at_call 49; refine (l1In_any _ _ _ _).mono ?_; rintro e w1 ⟨rfl, rfl⟩)
          go_round
          case rel => exact ⟨k + 1, by omega, by go_num, by rw [loadW_next HX, if_neg (by rw [Hl.out]; omega)]⟩
          case measure => simp [intOf]; omega
      · have h2 : decide (0 ≤ h) = false := by simp; omega
        go_wp2_with (go_at_call 49; refine (l1In_any _ _ _ _).mono ?_; rintro e w1 ⟨rfl, rfl⟩)
        go_round
        case rel => exact ⟨k + 1, by omega, by go_num, by rw [loadW_next HX, if_neg (by omega)]⟩
        case measure => simp [intOf]; omega
    · go_wp2
      go_ret
      exact ⟨ret_int (by rw [take_all HL.out (by omega)]), rfl⟩

end Go.Proofs.YtobkljhbmeglpaaDoor
