/-
  The law FnPlanLoad: the loads of all hours are together all that is given.
-/
import Derived.Test.YtobkljhbmeglpaaDoorDrCharge
import Derived.Test.YtobkljhbmeglpaaDoorAlive
namespace Go.Proofs.YtobkljhbmeglpaaDoor
open Go.ChangeShapes Go.WideShapes Go.ChangeAt Go.RowKit

def DrawPlR (w : World) (e : Ending) (w' : World) : Prop :=
  ∃ (gO n3 cO : Nat) (rows : List (List Int)) (z : Int), e = .returned (.tuple #[.slice (some ⟨gO, 0, none⟩) n3 cO, .int .i64 z]) ∧ RowsAt w' (some ⟨gO, 0, none⟩) n3 rows ∧ planD rows ∧ Below w.heap.size w w'
set_option maxHeartbeats 1000000 in
theorem drawPlanLoad_any (w : World) (A : Option Addr) (n c : Nat) (bs : List Int) (hn : n ≤ c ∧ c ≤ 9223372036854775807) (hb : BytesAt w A n bs) :
    Calls Tryd.prog 44 #[.slice A n c] w (DrawPlR w) := by
  go_enter Tryd.func44, Tryd.ntmps44
  go_wp2_with fail
  refine (open_any w A n c bs hn hb).mono ?_; rintro e w2 ⟨R, A1, n1, c1, bs1, rfl, hR2⟩
  have hRl := hR2.lt
  go_wp2_with fail
  refine (l20Charge_any w w2 R A1 n1 c1 bs1 0 hR2 (by omega)).mono ?_; rintro e w3 ⟨v1, v2, gO, n3, cO, gs, rows, rfl, hP, hD, hR3, hf3⟩
  go_wp2_with fail
  refine (pick_any w _ R A1 n1 c1 bs1 1000 8 hR3 (by omega)).mono ?_; rintro e w4 ⟨y, rfl, hy0, hy1, -, hR4, hf4⟩
  replace hy1 := hy1 (by omega)
  go_wp2
  exact bodyPost_ret (v := .tuple #[.slice (some ⟨gO, 0, none⟩) n3 cO, .int .i64 _]) (by simp [results, Tryd.results44, go_sem]; rfl) rfl ⟨gO, n3, cO, rows, _, rfl, (hP.fr1 hf4 hRl).rowsAt, hD, hR4.bw⟩

set_option maxRecDepth 100000 in
set_option maxHeartbeats 2000000 in
theorem lawPlanLoad (A : Option Addr) (n c : Nat) (bs : List Int) (w : World) (hn : n ≤ c ∧ c ≤ 9223372036854775807) (hb : BytesAt w A n bs) :
    Calls Tryd.prog 12 #[.slice A n c] w (RV w (.bool true)) := by
  obtain ⟨hn1, hn2⟩ := hn
  by_cases hbig : 1048576 < n
  · have hd : decide (1048576 < n) = true := by simpa using hbig
    go_enter Tryd.func12, Tryd.ntmps12
    go_wp2
    go_ret
    exact ⟨rfl, Below.refl _ _⟩
  have hd : decide (1048576 < n) = false := by simpa using hbig
  have HB := Lib.hid hb
  clear hb
  go_enter Tryd.func12, Tryd.ntmps12
  go_wp2_with fail
  refine (drawPlanLoad_any w A n c bs ⟨hn1, hn2⟩ HB.out).mono ?_; rintro e w1 ⟨gO, n3, cO, rows, z, rfl, hP, hD, hb1⟩
  clear HB hn1 hn2 hbig hd
  have hn6 : n3 ≤ 6 := by have := hD.1; have := hP.len; omega
  have HD := Lib.hid hD
  clear hD
  obtain ⟨x, HX⟩ : ∃ x, Hid (loadW z rows = x) := ⟨_, rfl⟩
  have hxx : (x != x) = false := by simp
  go_wp2_with fail
  refine (planLoad_any _ n3 cO rows z w1 (by omega) hP).mono ?_; rintro e w2 ⟨rfl, rfl⟩
  rw [HX.out]
  go_wp2_with fail
  refine (specPlanLoad_any _ n3 cO rows z w1 (by omega) hP).mono ?_; rintro e w2 ⟨rfl, rfl⟩
  rw [HX.out]
  go_wp2
  go_loop [6, 7] (fun t i => ∃ k : Nat, k ≤ 6 ∧ i = .int .i64 k ∧ t = .int .i64 (colsP rows k)) (fun _ i => 6 - (intOf i).toNat)
  case atStart => exact ⟨0, by omega, rfl, rfl⟩
  case round =>
    obtain ⟨k, hk, rfl, rfl⟩ := hrel
    have hcb := colsP_bd HD.out k hk
    by_cases hk6 : k < 6
    · have hlp := loadW_plain HD.out hk6
      have HLP := Lib.hid hlp.1
      have hlb := hlp.2
      clear hlp
      have HN : Hid (colsP rows (k + 1) = colsP rows k + colP k rows) := rfl
      obtain ⟨y, HY⟩ : ∃ y, Hid (colP k rows = y) := ⟨_, rfl⟩
      obtain ⟨s, HS⟩ : ∃ s, Hid (colsP rows k = s) := ⟨_, rfl⟩
      rw [HY.out] at hlb HLP HN
      rw [HS.out] at hcb HN ⊢
      go_wp2_with fail
      refine (planLoad_any _ n3 cO rows (k : Int) _ (by omega) hP).mono ?_; rintro e w2 ⟨rfl, rfl⟩
      rw [HLP.out]
      go_wp2
      go_round
      case rel => exact ⟨k + 1, by omega, by go_num, by rw [HN.out]⟩
      case measure => simp [intOf]; omega
    · obtain rfl : k = 6 := by omega
      have HCA := Lib.hid (cols_all HD.out)
      obtain ⟨s, HS⟩ : ∃ s, Hid (colsP rows 6 = s) := ⟨_, rfl⟩
      rw [HS.out] at hcb HCA ⊢
      go_wp2
      go_loop [8] (fun i => ∃ k : Nat, k ≤ n3 ∧ i = .int .i64 k) (fun i => n3 - (intOf i).toNat)
      case atStart => exact ⟨0, by omega, rfl⟩
      case round =>
        obtain ⟨k, hk, rfl⟩ := hrel
        by_cases hkn : k < n3
        · obtain ⟨r, b, of, A', c', l, HR, Hl, he, hbl, hc, hi, hm⟩ := hP.get hkn
          injection he with he; injection he with e1 e2; subst e1; subst e2
          simp only [Nat.zero_add] at hc
          have hl6 : l = 6 := by rw [← Hl.out]; exact (HD.out.2 r (List.mem_of_getElem? HR.out)).1
          subst hl6
          clear HR Hl
          go_wp2
          go_round
          case rel => exact ⟨k + 1, by omega, by go_num⟩
          case measure => simp [intOf]; omega
        · obtain rfl : k = n3 := by omega
          have hss : (s == s) = true := by simp
          go_wp2_with fail
          refine (planAll_any _ k cO rows _ (by omega) hP).mono ?_; rintro e w2 ⟨rfl, rfl⟩
          rw [← HCA.out]
          go_wp2_with fail
          refine (alive_any _).mono ?_; rintro e w4 ⟨rfl, hb4⟩
          go_wp2
          go_ret
          exact ⟨rfl, below_next hb1 hb4⟩
end Go.Proofs.YtobkljhbmeglpaaDoor
