/-
  Lists of cars: how they lie in memory, CarsValid of the program and of the reference, and the statements' own helpers on them.
-/
import Derived.Test.YtpipbkefelcmbaaDoorC3
import Derived.Test.YtpipbkefelcmbaaDoorInts
import Derived.Deep.RegionWith
import Derived.Deep.RegionHeld3
namespace Go.Proofs.YtpipbkefelcmbaaDoor
open Go.ChangeShapes Go.WideShapes Go.ChangeAt Go.RowKit

def CarsAt (w : World) (A : Option Addr) (n : Nat) (ns : List C4) : Prop := SlAt w 4 A n (cc ns)
theorem CarsAt.len {w : World} {A : Option Addr} {n : Nat} {ns : List C4} (h : CarsAt w A n ns) : ns.length = n := by simpa [cc] using SlAt.len h
theorem CarsAt.below {w w' : World} {A : Option Addr} {n : Nat} {ns : List C4} (h : CarsAt w A n ns) (hb : Below w.heap.size w w') : CarsAt w' A n ns := SlAt.below h hb
theorem CarsAt.get {w : World} {A : Option Addr} {n k : Nat} {ns : List C4} (h : CarsAt w A n ns) (hk : k < n) :
    ∃ x b off, Hid (ns[k]? = some x) ∧ A = some ⟨b, off, none⟩ ∧ b < w.heap.size ∧ w.cell? ⟨b, off + k * 4, none⟩ = some (.int .i64 x.f) ∧ w.cell? ⟨b, off + k * 4 + 1, none⟩ = some (.int .i64 x.t) ∧
      w.cell? ⟨b, off + k * 4 + 2, none⟩ = some (.int .i64 x.r) ∧ w.cell? ⟨b, off + k * 4 + 3, none⟩ = some (.int .i64 x.u) := by
  have hl := h.len
  obtain ⟨x, hx⟩ : ∃ x, ns[k]? = some x := ⟨_, List.getElem?_eq_getElem (by omega)⟩
  obtain ⟨b, off, hA, hlt, _, hc⟩ := SlAt.row h k [.int .i64 x.f, .int .i64 x.t, .int .i64 x.r, .int .i64 x.u] (by simp [cc, hx])
  exact ⟨x, b, off, hx, hA, hlt, by simpa using hc 0 _ rfl, hc 1 _ rfl, hc 2 _ rfl, hc 3 _ rfl⟩


theorem OwnAt.cap {w : World} {base sz n c : Nat} {e : TypeId} {A : Option Addr} {rs : List (List Value)} (h : OwnAt w base e sz (.slice A n c) n rs) : n ≤ c ∧ c ≤ 9223372036854775807 := by
  obtain ⟨A', c', he, h1, h2⟩ := h.form
  injection he with _ _ hc
  subst hc
  unfold maxLen at h2
  exact ⟨h1, h2⟩

set_option maxHeartbeats 1000000 in
theorem carsValid_any (A : Option Addr) (n c : Nat) (ns : List C4) (w : World) (hn : n ≤ c ∧ c ≤ 9223372036854775807) (hx : CarsAt w A n ns) :
    Calls Tryd.prog 22 #[.slice A n c] w (RV w (.bool (carsB ns))) := by
  have HL := Lib.hid hx.len
  obtain ⟨hnc, hcm⟩ := hn
  by_cases h5 : 6 < n
  · go_enter Tryd.func22, Tryd.ntmps22
    go_wp2
    go_ret
    exact ⟨ret_bool (carsB_long HL.out h5).symm, Below.refl _ _⟩
  go_enter Tryd.func22, Tryd.ntmps22
  go_wp2
  go_loopw [12] (fun i wr => ∃ k : Nat, k ≤ n ∧ i = .int .i64 k ∧ (ns.take k).all C4.ok = true ∧ uniq (ids ns) k ∧ Below w.heap.size w wr) (fun i _ => n - (intOf i).toNat)
  case atStart => exact ⟨0, Nat.zero_le _, rfl, rfl, fun a h => by omega, Below.refl _ _⟩
  case round =>
    obtain ⟨k, hk, rfl, he, hu, hbw⟩ := hrel
    have HE := Lib.hid he
    have HU := Lib.hid hu
    clear he hu
    obtain ⟨wo, rfl⟩ : ∃ wo : World, wo = wr := ⟨_, rfl⟩
    by_cases hlt : k < n
    · obtain ⟨x, b, off, HX, rfl, hb, hc0, hc1, hc2, hc3⟩ := (hx.below hbw).get hlt
      have hbe : b ≠ wo.heap.size := by omega
      cases hok : x.ok
      all_goals
        have HO := Lib.hid hok
        unfold C4.ok at hok
        go_wp2_with fail
        refine (carValid_any _ _ _ _ _).mono ?_; rintro e w1 ⟨rfl, hb1⟩
      · go_wp2
        go_ret
        refine ⟨ret_bool (carsB_bad HX HO.out).symm, ?_⟩
        exact hbw.trans ((((Below.refl _ _).alloc (Nat.le_refl _) _).trans (hb1.mono (by simp))).mono hbw.size)
      · have hcp := ((Whole.new wo _ _).below hb1).cell 0
        simp only [List.getElem?_cons_zero] at hcp
        have hbo : Below wo.heap.size wo w1 := ((Below.refl _ _).alloc (Nat.le_refl _) _).trans (hb1.mono (by simp))
        have hbw1 : Below w.heap.size w w1 := hbw.trans (hbo.mono hbw.size)
        have hw1 : wo.heap.size < w1.heap.size := by have := hb1.size; simp at this; omega
        go_wp2
        clear hb1 hok
        go_loopw [24] (fun i wr => ∃ j : Nat, j ≤ k ∧ i = .int .i64 j ∧ newAt (ids ns) k j ∧ Below w1.heap.size w1 wr) (fun i _ => k - (intOf i).toNat)
        case atStart => exact ⟨0, Nat.zero_le _, rfl, fun i h => by omega, Below.refl _ _⟩
        case round =>
          obtain ⟨j, hj, rfl, hnew, hbi⟩ := hrel
          have HNew := Lib.hid hnew
          clear hnew
          have hcp' := (hbi.cell (p := ⟨wo.heap.size, 0, none⟩) hw1).trans hcp
          by_cases hjk : j < k
          · obtain ⟨y, b2, off2, HY, hA2, hb2, hd0, hd1, hd2, hd3⟩ := (hx.below (below_next hbw1 hbi)).get (k := j) (by omega)
            cases hA2
            have hbe2 : b ≠ wr.heap.size := by omega
            have hws : wo.heap.size < wr.heap.size := by have := hbi.size; omega
            have hcp2 : (wr.alloc (.cells #[.int .i64 y.f, .int .i64 y.t, .int .i64 y.r, .int .i64 y.u] 24)).cell? ⟨wo.heap.size, 0, none⟩ = some (.int .i64 x.f) := (((Below.refl wr.heap.size wr).alloc (Nat.le_refl _) _).cell (p := ⟨wo.heap.size, 0, none⟩) hws).trans hcp'
            have hwe : wo.heap.size ≠ wr.heap.size := by omega
            obtain ⟨bo, HBO⟩ : ∃ q, Hid (q = wo.heap.size) := ⟨_, rfl⟩
            rw [← HBO.out] at hcp2 hcp' hwe hws ⊢
            by_cases hxy : y.f = x.f
            · go_wp2
              go_ret
              exact ⟨ret_bool (carsB_twice HL.out hlt hjk (by rw [ids_get HX, ids_get HY]; exact hxy)).symm, (below_next hbw1 hbi).alloc (below_next hbw1 hbi).size _⟩
            · go_wp2
              go_roundw
              case rel => exact ⟨j + 1, by omega, by go_num, newAt_next HNew.out (by rw [ids_get HX, ids_get HY]; exact hxy), hbi.alloc hbi.size _⟩
              case measure => simp [intOf]; omega
          · obtain rfl : j = k := by omega
            go_wp2
            go_roundw
            case rel => exact ⟨j + 1, by omega, by go_num, by rw [cars_next HX, HE.out, HO.out]; rfl, uniq_next HU.out HNew.out, below_next hbw1 hbi⟩
            case measure => simp [intOf]; omega
    · go_wp2
      go_ret
      have hkn : n ≤ k := by omega
      exact ⟨ret_bool (carsB_all HL.out hkn HE.out (by omega) HU.out).symm, hbw⟩

/-- Where the number x stands first, or -1. -/
def FindR (xs : List Int) (x : Int) (n : Nat) (r : Int) : Prop := (r = -1 ∧ ∀ i, i < n → xs.getD i 0 ≠ x) ∨ ∃ j : Nat, r = j ∧ j < n ∧ xs.getD j 0 = x ∧ ∀ i, i < j → xs.getD i 0 ≠ x
set_option maxHeartbeats 1000000 in
theorem l3Find_any (A : Option Addr) (n c : Nat) (ns : List C4) (x : Int) (w : World) (hn : n ≤ 9223372036854775807) (hx : CarsAt w A n ns) :
    Calls Tryd.prog 47 #[.slice A n c, .int .i64 x] w fun e w' => ∃ r, e = .returned (.int .i64 r) ∧ w = w' ∧ FindR (ids ns) x n r := by
  go_enter Tryd.func47, Tryd.ntmps47
  go_wp2
  go_loop [5] (fun i => ∃ j : Nat, j ≤ n ∧ i = .int .i64 j ∧ ∀ i, i < j → (ids ns).getD i 0 ≠ x) (fun i => n - (intOf i).toNat)
  case atStart => exact ⟨0, Nat.zero_le _, rfl, fun i h => by omega⟩
  case round =>
    obtain ⟨j, hj, rfl, hno⟩ := hrel
    have HNo := Lib.hid hno
    clear hno
    by_cases hlt : j < n
    · obtain ⟨y, b, off, HY, rfl, hb, hc0, hc1, hc2, hc3⟩ := hx.get hlt
      by_cases hyx : y.f = x
      · go_wp2
        go_ret
        exact ⟨_, rfl, rfl, .inr ⟨j, rfl, hlt, by rw [ids_get HY]; exact hyx, HNo.out⟩⟩
      · go_wp2
        go_round
        case rel =>
          refine ⟨j + 1, by omega, by go_num, fun i hi => ?_⟩
          by_cases he : i = j
          · subst he; rw [ids_get HY]; exact hyx
          · exact HNo.out i (by omega)
        case measure => simp [intOf]; omega
    · obtain rfl : j = n := by omega
      go_wp2
      go_ret
      exact ⟨_, rfl, rfl, .inl ⟨rfl, HNo.out⟩⟩

set_option maxHeartbeats 1000000 in
theorem specCarsValid_any (A : Option Addr) (n c : Nat) (ns : List C4) (w : World) (hn : n ≤ c ∧ c ≤ 9223372036854775807) (hx : CarsAt w A n ns) :
    Calls Tryd.prog 23 #[.slice A n c] w (RV w (.bool (carsB ns))) := by
  have HL := Lib.hid hx.len
  obtain ⟨hnc, hcm⟩ := hn
  go_enter Tryd.func23, Tryd.ntmps23
  go_wp2
  go_loopw [3] (fun i wr => ∃ k : Nat, k ≤ n ∧ i = .int .i64 k ∧ (ns.take k).all C4.ok = true ∧ uniq (ids ns) k ∧ Below w.heap.size w wr) (fun i _ => n - (intOf i).toNat)
  case atStart => exact ⟨0, Nat.zero_le _, rfl, rfl, fun a h => by omega, Below.refl _ _⟩
  case round =>
    obtain ⟨k, hk, rfl, he, hu, hbw⟩ := hrel
    have HE := Lib.hid he
    have HU := Lib.hid hu
    clear he hu
    by_cases hlt : k < n
    · obtain ⟨x, b, off, HX, rfl, hb, hc0, hc1, hc2, hc3⟩ := (hx.below hbw).get hlt
      cases hok : x.ok
      all_goals
        have HO := Lib.hid hok
        unfold C4.ok at hok
        go_wp2_with fail
        refine (specCarValid_any _ _ _ _ _).mono ?_; rintro e w1 ⟨rfl, hb1⟩
      · go_wp2
        go_ret
        exact ⟨ret_bool (carsB_bad HX HO.out).symm, hbw.trans (hb1.mono hbw.size)⟩
      · have hbw1 := below_next hbw hb1
        have hd0 := (hb1.cell (p := ⟨b, off + k * 4, none⟩) hb).trans hc0
        go_wp2_with fail
        refine (l3Find_any _ n c ns x.f _ (by omega) (hx.below hbw1)).mono ?_; rintro e w2 ⟨r, rfl, rfl, hr⟩
        have HR := Lib.hid hr
        clear hr
        by_cases hrk : r < k
        · go_wp2
          go_ret
          refine ⟨ret_bool ?_, hbw1⟩
          rcases HR.out with ⟨_, hno⟩ | ⟨j, hj, hjn, he, _⟩
          · exact absurd (ids_get HX) (hno k hlt)
          · exact (carsB_twice HL.out hlt (by omega) (he.trans (ids_get HX).symm)).symm
        · go_wp2
          go_roundw
          case rel =>
            refine ⟨k + 1, by omega, by go_num, by rw [cars_next HX, HE.out, HO.out]; rfl, uniq_next HU.out (fun i hi => ?_), hbw1⟩
            rw [ids_get HX]
            rcases HR.out with ⟨_, hno⟩ | ⟨j, hj, hjn, he, hf⟩
            · exact hno i (by omega)
            · exact hf i (by omega)
          case measure => simp [intOf]; omega
    · by_cases h5 : n ≤ 6
      · go_wp2
        go_ret
        exact ⟨ret_bool (by rw [carsB_all HL.out (by omega) HE.out h5 HU.out]; simp; omega), hbw⟩
      · go_wp2
        go_ret
        exact ⟨ret_bool (by rw [carsB_long HL.out (by omega)]; simp; omega), hbw⟩


end Go.Proofs.YtpipbkefelcmbaaDoor
