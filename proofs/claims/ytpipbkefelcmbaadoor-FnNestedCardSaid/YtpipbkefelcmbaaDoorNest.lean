/-
  Nested of the program and of the reference.
-/
import Derived.Test.YtpipbkefelcmbaaDoorCars
import Derived.Deep.RegionLaw
import Derived.BigRegion
namespace Go.Proofs.YtpipbkefelcmbaaDoor
open Go.ChangeShapes Go.WideShapes Go.ChangeAt Go.RowKit

def under (a b : C4) : Bool := decide (a.t ≤ b.t) && decide (a.r ≤ b.r) && decide (a.u ≤ b.u)
def pairOk (a b : C4) : Bool := under a b || under b a
theorem pairOk_comm (a b : C4) : pairOk a b = pairOk b a := by unfold pairOk; exact Bool.or_comm _ _
/-- Of any two cars one is under the other one. -/
def PairsTo (cs : List C4) (k : Nat) : Prop := ∀ a, a < k → ∀ b, b < a → ∀ x y, cs[a]? = some x → cs[b]? = some y → pairOk x y = true
def nestedR (cs : List C4) (v : Bool) : Prop := v = true ↔ (carsB cs = true ∧ PairsTo cs cs.length)
theorem nestedR_same {cs : List C4} {a b : Bool} (h1 : nestedR cs a) (h2 : nestedR cs b) : a = b := by
  rw [Bool.eq_iff_iff]; exact h1.trans h2.symm
theorem pairs_bad {cs : List C4} {a b n : Nat} {x y : C4} (hl : cs.length = n) (ha : a < n) (hb : b < a) (hx : Hid (cs[a]? = some x)) (hy : Hid (cs[b]? = some y)) (h : pairOk x y = false) : ¬ PairsTo cs cs.length := by
  intro hp
  have := hp a (by omega) b hb x y hx.out hy.out
  rw [h] at this; cases this
theorem pairs_next {cs : List C4} {k : Nat} {x : C4} (h : PairsTo cs k) (hx : Hid (cs[k]? = some x)) (hp : ∀ b, b < k → ∀ y, cs[b]? = some y → pairOk x y = true) : PairsTo cs (k + 1) := by
  intro a ha b hb x' y hx' hy
  by_cases he : a = k
  · subst he
    have h1 := hx.out
    rw [h1] at hx'; injection hx' with hx'; subst hx'
    exact hp b hb y hy
  · exact h a (by omega) b hb x' y hx' hy

set_option maxHeartbeats 1000000 in
theorem notGreater_any (x y : C4) (w : World) :
    Calls Tryd.prog 48 #[.agg #[.int .i64 x.f, .int .i64 x.t, .int .i64 x.r, .int .i64 x.u], .agg #[.int .i64 y.f, .int .i64 y.t, .int .i64 y.r, .int .i64 y.u]] w (RV w (.bool (under x y))) := by
  go_enter Tryd.func48, Tryd.ntmps48
  go_wp2
  all_goals
    go_ret
    refine ⟨ret_bool ?_, ((Below.refl _ _).alloc (Nat.le_refl _) _).alloc (by simp) _⟩
    rw [Bool.eq_iff_iff]; simp [under]; omega
theorem notGreater_yes (x y : C4) (w : World) (h : under x y = true) :
    Calls Tryd.prog 48 #[.agg #[.int .i64 x.f, .int .i64 x.t, .int .i64 x.r, .int .i64 x.u], .agg #[.int .i64 y.f, .int .i64 y.t, .int .i64 y.r, .int .i64 y.u]] w (RV w (.bool true)) := by rw [← h]; exact notGreater_any x y w
theorem notGreater_no (x y : C4) (w : World) (h : under x y = false) :
    Calls Tryd.prog 48 #[.agg #[.int .i64 x.f, .int .i64 x.t, .int .i64 x.r, .int .i64 x.u], .agg #[.int .i64 y.f, .int .i64 y.t, .int .i64 y.r, .int .i64 y.u]] w (RV w (.bool false)) := by rw [← h]; exact notGreater_any x y w
set_option maxHeartbeats 1000000 in
theorem l3Under_any (x y : C4) (w : World) :
    Calls Tryd.prog 49 #[.agg #[.int .i64 x.f, .int .i64 x.t, .int .i64 x.r, .int .i64 x.u], .agg #[.int .i64 y.f, .int .i64 y.t, .int .i64 y.r, .int .i64 y.u]] w (RV w (.bool (under x y))) := by
  go_enter Tryd.func49, Tryd.ntmps49
  go_wp2
  all_goals
    go_ret
    refine ⟨ret_bool ?_, ((Below.refl _ _).alloc (Nat.le_refl _) _).alloc (by simp) _⟩
    rw [Bool.eq_iff_iff]; simp [under]; omega
theorem l3Under_yes (x y : C4) (w : World) (h : under x y = true) :
    Calls Tryd.prog 49 #[.agg #[.int .i64 x.f, .int .i64 x.t, .int .i64 x.r, .int .i64 x.u], .agg #[.int .i64 y.f, .int .i64 y.t, .int .i64 y.r, .int .i64 y.u]] w (RV w (.bool true)) := by rw [← h]; exact l3Under_any x y w
theorem l3Under_no (x y : C4) (w : World) (h : under x y = false) :
    Calls Tryd.prog 49 #[.agg #[.int .i64 x.f, .int .i64 x.t, .int .i64 x.r, .int .i64 x.u], .agg #[.int .i64 y.f, .int .i64 y.t, .int .i64 y.r, .int .i64 y.u]] w (RV w (.bool false)) := by rw [← h]; exact l3Under_any x y w
set_option maxHeartbeats 4000000 in
theorem specNested_any (A : Option Addr) (n c : Nat) (ns : List C4) (w : World) (hn : n ≤ c ∧ c ≤ 9223372036854775807) (hx : CarsAt w A n ns) :
    Calls Tryd.prog 32 #[.slice A n c] w fun e w' => ∃ v, e = .returned (.bool v) ∧ nestedR ns v ∧ Below w.heap.size w w' := by
  have HL := Lib.hid hx.len
  have HN := Lib.hid hn
  obtain ⟨hnc, hcm⟩ := hn
  go_enter Tryd.func32, Tryd.ntmps32
  go_wp2
  go_loopw [3] (fun i wr => ∃ k : Nat, k ≤ n ∧ i = .int .i64 k ∧ PairsTo ns k ∧ Below w.heap.size w wr) (fun i _ => n - (intOf i).toNat)
  case atStart => exact ⟨0, Nat.zero_le _, rfl, fun a h => by omega, Below.refl _ _⟩
  case round =>
    obtain ⟨k, hk, rfl, hp, hbw⟩ := hrel
    have HP := Lib.hid hp
    clear hp
    obtain ⟨wo, rfl⟩ : ∃ wo : World, wo = wr := ⟨_, rfl⟩
    by_cases hlt : k < n
    · obtain ⟨x, b, off, HX, rfl, hb, hc0, hc1, hc2, hc3⟩ := (hx.below hbw).get hlt
      have hdk : decide ((k : Int) < n) = true := by simp; omega
      go_wp2
      try rw [hdk]
      clear hdk
      go_loopw [4] (fun i wr => ∃ j : Nat, j ≤ k ∧ i = .int .i64 j ∧ (∀ b, b < j → ∀ y, ns[b]? = some y → pairOk x y = true) ∧ Below wo.heap.size wo wr) (fun i _ => k - (intOf i).toNat)
      case atStart => exact ⟨0, Nat.zero_le _, rfl, fun i h => by omega, Below.refl _ _⟩
      case round =>
        obtain ⟨j, hj, rfl, hq, hbi⟩ := hrel
        have HQ := Lib.hid hq
        clear hq
        by_cases hjk : j < k
        · have hbwi := below_next hbw hbi
          obtain ⟨y, b2, off2, HY, hA2, hb2, hd0, hd1, hd2, hd3⟩ := (hx.below hbwi).get (k := j) (by omega)
          cases hA2
          have he0 := (hbi.cell (p := ⟨b, off + k * 4, none⟩) hb).trans hc0
          have he1 := (hbi.cell (p := ⟨b, off + k * 4 + 1, none⟩) hb).trans hc1
          have he2 := (hbi.cell (p := ⟨b, off + k * 4 + 2, none⟩) hb).trans hc2
          have he3 := (hbi.cell (p := ⟨b, off + k * 4 + 3, none⟩) hb).trans hc3
          have hbb : b < wr.heap.size := Nat.lt_of_lt_of_le hb hbi.size
          have hj0 : (0 : Int) ≤ (j : Int) := by omega
          have hj1 : (j : Int) < n := by omega
          have hk0 : (0 : Int) ≤ (k : Int) := by omega
          have hk1 : (k : Int) < n := by omega
          have HO : Hid (pairOk x y = (under x y || under y x)) := rfl
          cases h1 : under y x
          · cases h2 : under x y
            · rw [h1, h2] at HO
              have HU := Lib.hid h1
              have HV := Lib.hid h2
              clear h1 h2
              go_wp2
              refine wp_region_held_drew (S := (fun w' => w'.cell? ⟨b, off + k * 4, none⟩ = some (.int .i64 x.f) ∧ w'.cell? ⟨b, off + k * 4 + 1, none⟩ = some (.int .i64 x.t) ∧ w'.cell? ⟨b, off + k * 4 + 2, none⟩ = some (.int .i64 x.r) ∧ w'.cell? ⟨b, off + k * 4 + 3, none⟩ = some (.int .i64 x.u) ∧ w'.cell? ⟨b, off + j * 4, none⟩ = some (.int .i64 y.f) ∧ w'.cell? ⟨b, off + j * 4 + 1, none⟩ = some (.int .i64 y.t) ∧ w'.cell? ⟨b, off + j * 4 + 2, none⟩ = some (.int .i64 y.r) ∧ w'.cell? ⟨b, off + j * 4 + 3, none⟩ = some (.int .i64 y.u) ∧ Below wr.heap.size wr w')) (by kernel_rfl) ?_ (fun hHeld => ?_)
              · (try dsimp only); (first | exact ⟨he0, he1, he2, he3, hd0, hd1, hd2, hd3, (Below.refl _ _).drew⟩ | (obtain ⟨k0, k1, k2, k3, k4, k5, k6, k7, k8⟩ := hHeld; have l := Nat.lt_of_lt_of_le hbb k8.size; exact ⟨(hb1.cell l).trans k0, (hb1.cell l).trans k1, (hb1.cell l).trans k2, (hb1.cell l).trans k3, (hb1.cell l).trans k4, (hb1.cell l).trans k5, (hb1.cell l).trans k6, (hb1.cell l).trans k7, k8.trans (hb1.mono k8.size)⟩))
              refine wpAnyH_take (i := 0) (v := ?vq1_0) (by simp only [List.getElem?_toArray, List.getElem?_cons_zero]; rfl) (by kernel_rfl) (by kernel_rfl) (by kernel_rfl) (by exact fun _ _ _ h => h) (Or.inl ⟨by rfl, ?hq1_0⟩) hHeld ?rq1_0
              case hq1_0 => (intro w hSw; (try dsimp only at hSw); go_simp; (try with_reducible rfl))
              try simp only [put_laws]
              refine wpAnyH_take (i := 1) (v := ?vq1_1) (by simp only [List.getElem?_toArray, List.getElem?_cons_succ, List.getElem?_cons_zero]; rfl) (by kernel_rfl) (by kernel_rfl) (by kernel_rfl) (by exact fun _ _ _ h => h) (Or.inl ⟨by rfl, ?hq1_1⟩) hHeld ?rq1_1
              case hq1_1 => (intro w hSw; (try dsimp only at hSw); go_simp; (try with_reducible rfl))
              try simp only [put_laws]
              refine wpAnyH_take (i := 2) (v := ?vq1_2) (by simp only [List.getElem?_toArray, List.getElem?_cons_succ, List.getElem?_cons_zero]; rfl) (by kernel_rfl) (by kernel_rfl) (by kernel_rfl) (by exact fun _ _ _ h => h) (Or.inl ⟨by rfl, ?hq1_2⟩) hHeld ?rq1_2
              case hq1_2 => (intro w hSw; (try dsimp only at hSw); go_simp; (try with_reducible rfl))
              try simp only [put_laws]
              refine wpAnyH_take (i := 3) (v := ?vq1_3) (by simp only [List.getElem?_toArray, List.getElem?_cons_succ, List.getElem?_cons_zero]; rfl) (by kernel_rfl) (by kernel_rfl) (by kernel_rfl) (by exact fun _ _ _ h => h) (Or.inl ⟨by rfl, ?hq1_3⟩) hHeld ?rq1_3
              case hq1_3 => (intro w hSw; (try dsimp only at hSw); go_simp; (try with_reducible rfl))
              try simp only [put_laws]
              refine wpAnyH_take (i := 4) (v := ?vq1_4) (by simp only [List.getElem?_toArray, List.getElem?_cons_succ, List.getElem?_cons_zero]; rfl) (by kernel_rfl) (by kernel_rfl) (by kernel_rfl) (by exact fun _ _ _ h => h) (Or.inl ⟨by rfl, ?hq1_4⟩) hHeld ?rq1_4
              case hq1_4 => (intro w hSw; (try dsimp only at hSw); go_simp; (try with_reducible rfl))
              try simp only [put_laws]
              refine wpAnyH_take (i := 5) (v := ?vq1_5) (by simp only [List.getElem?_toArray, List.getElem?_cons_succ, List.getElem?_cons_zero]; rfl) (by kernel_rfl) (by kernel_rfl) (by kernel_rfl) (by exact fun _ _ _ h => h) (Or.inl ⟨by rfl, ?hq1_5⟩) hHeld ?rq1_5
              case hq1_5 => (intro w hSw; (try dsimp only at hSw); go_simp; (try with_reducible rfl))
              try simp only [put_laws]
              refine wpAnyH_take (i := 6) (v := ?vq1_6) (by simp only [List.getElem?_toArray, List.getElem?_cons_succ, List.getElem?_cons_zero]; rfl) (by kernel_rfl) (by kernel_rfl) (by kernel_rfl) (by exact fun _ _ _ h => h) (Or.inl ⟨by rfl, ?hq1_6⟩) hHeld ?rq1_6
              case hq1_6 => (intro w hSw; (try dsimp only at hSw); go_simp; (try with_reducible rfl))
              try simp only [put_laws]
              refine wpAnyH_take (i := 7) (v := ?vq1_7) (by simp only [List.getElem?_toArray, List.getElem?_cons_succ, List.getElem?_cons_zero]; rfl) (by kernel_rfl) (by kernel_rfl) (by kernel_rfl) (by exact fun _ _ _ h => h) (Or.inl ⟨by rfl, ?hq1_7⟩) hHeld ?rq1_7
              case hq1_7 => (intro w hSw; (try dsimp only at hSw); go_simp; (try with_reducible rfl))
              try simp only [put_laws]
              refine wpAnyH_ready (rs := [8]) (by kernel_rfl) (by simp) ?_
              refine AllReadyH.cons (by simp only [List.getElem?_toArray, List.getElem?_cons_succ, List.getElem?_cons_zero]; rfl) (fun K hK => ?_) AllReadyH.nil
              go_simp
              (refine (l3Under_no _ _ _ HU.out).mono ?_; rintro e w1 ⟨rfl, hb1⟩)
              refine hK.out _ _ ?_ (fun hHeld => ?_)
              · (try dsimp only); (first | exact ⟨he0, he1, he2, he3, hd0, hd1, hd2, hd3, (Below.refl _ _).drew⟩ | (obtain ⟨k0, k1, k2, k3, k4, k5, k6, k7, k8⟩ := hHeld; have l := Nat.lt_of_lt_of_le hbb k8.size; exact ⟨(hb1.cell l).trans k0, (hb1.cell l).trans k1, (hb1.cell l).trans k2, (hb1.cell l).trans k3, (hb1.cell l).trans k4, (hb1.cell l).trans k5, (hb1.cell l).trans k6, (hb1.cell l).trans k7, k8.trans (hb1.mono k8.size)⟩))
              clear hK K
              try simp only [put_laws]
              refine wpAnyH_take (i := 9) (v := ?vq1_9) (by simp only [List.getElem?_toArray, List.getElem?_cons_succ, List.getElem?_cons_zero]; rfl) (by kernel_rfl) (by kernel_rfl) (by kernel_rfl) (by exact fun _ _ _ h => h) (Or.inl ⟨by rfl, ?hq1_9⟩) hHeld ?rq1_9
              case hq1_9 => (intro w hSw; (try dsimp only at hSw); go_simp; (try with_reducible rfl))
              try simp only [put_laws]
              refine wpAnyH_take (i := 10) (v := ?vq1_10) (by simp only [List.getElem?_toArray, List.getElem?_cons_succ, List.getElem?_cons_zero]; rfl) (by kernel_rfl) (by kernel_rfl) (by kernel_rfl) (by exact fun _ _ _ h => h) (Or.inl ⟨by rfl, ?hq1_10⟩) hHeld ?rq1_10
              case hq1_10 => (intro w hSw; (try dsimp only at hSw); go_simp; (try with_reducible rfl))
              try simp only [put_laws]
              refine wpAnyH_take (i := 11) (v := ?vq1_11) (by simp only [List.getElem?_toArray, List.getElem?_cons_succ, List.getElem?_cons_zero]; rfl) (by kernel_rfl) (by kernel_rfl) (by kernel_rfl) (by exact fun _ _ _ h => h) (Or.inl ⟨by rfl, ?hq1_11⟩) hHeld ?rq1_11
              case hq1_11 => (intro w hSw; (try dsimp only at hSw); go_simp; (try with_reducible rfl))
              try simp only [put_laws]
              refine wpAnyH_take (i := 12) (v := ?vq1_12) (by simp only [List.getElem?_toArray, List.getElem?_cons_succ, List.getElem?_cons_zero]; rfl) (by kernel_rfl) (by kernel_rfl) (by kernel_rfl) (by exact fun _ _ _ h => h) (Or.inl ⟨by rfl, ?hq1_12⟩) hHeld ?rq1_12
              case hq1_12 => (intro w hSw; (try dsimp only at hSw); go_simp; (try with_reducible rfl))
              try simp only [put_laws]
              refine wpAnyH_take (i := 13) (v := ?vq1_13) (by simp only [List.getElem?_toArray, List.getElem?_cons_succ, List.getElem?_cons_zero]; rfl) (by kernel_rfl) (by kernel_rfl) (by kernel_rfl) (by exact fun _ _ _ h => h) (Or.inl ⟨by rfl, ?hq1_13⟩) hHeld ?rq1_13
              case hq1_13 => (intro w hSw; (try dsimp only at hSw); go_simp; (try with_reducible rfl))
              try simp only [put_laws]
              refine wpAnyH_take (i := 14) (v := ?vq1_14) (by simp only [List.getElem?_toArray, List.getElem?_cons_succ, List.getElem?_cons_zero]; rfl) (by kernel_rfl) (by kernel_rfl) (by kernel_rfl) (by exact fun _ _ _ h => h) (Or.inl ⟨by rfl, ?hq1_14⟩) hHeld ?rq1_14
              case hq1_14 => (intro w hSw; (try dsimp only at hSw); go_simp; (try with_reducible rfl))
              try simp only [put_laws]
              refine wpAnyH_take (i := 15) (v := ?vq1_15) (by simp only [List.getElem?_toArray, List.getElem?_cons_succ, List.getElem?_cons_zero]; rfl) (by kernel_rfl) (by kernel_rfl) (by kernel_rfl) (by exact fun _ _ _ h => h) (Or.inl ⟨by rfl, ?hq1_15⟩) hHeld ?rq1_15
              case hq1_15 => (intro w hSw; (try dsimp only at hSw); go_simp; (try with_reducible rfl))
              try simp only [put_laws]
              refine wpAnyH_take (i := 16) (v := ?vq1_16) (by simp only [List.getElem?_toArray, List.getElem?_cons_succ, List.getElem?_cons_zero]; rfl) (by kernel_rfl) (by kernel_rfl) (by kernel_rfl) (by exact fun _ _ _ h => h) (Or.inl ⟨by rfl, ?hq1_16⟩) hHeld ?rq1_16
              case hq1_16 => (intro w hSw; (try dsimp only at hSw); go_simp; (try with_reducible rfl))
              try simp only [put_laws]
              refine wpAnyH_take (i := 17) (v := ?vq1_17) (by simp only [List.getElem?_toArray, List.getElem?_cons_succ, List.getElem?_cons_zero]; rfl) (by kernel_rfl) (by kernel_rfl) (by kernel_rfl) (by exact fun _ _ _ h => h) (Or.inl ⟨by rfl, ?hq1_17⟩) hHeld ?rq1_17
              case hq1_17 => (intro w hSw; (try dsimp only at hSw); go_simp; (try with_reducible rfl))
              try simp only [put_laws]
              refine wpAnyH_take (i := 18) (v := ?vq1_18) (by simp only [List.getElem?_toArray, List.getElem?_cons_succ, List.getElem?_cons_zero]; rfl) (by kernel_rfl) (by kernel_rfl) (by kernel_rfl) (by exact fun _ _ _ h => h) (Or.inl ⟨by rfl, ?hq1_18⟩) hHeld ?rq1_18
              case hq1_18 => (intro w hSw; (try dsimp only at hSw); go_simp; (try with_reducible rfl))
              try simp only [put_laws]
              refine wpAnyH_ready (rs := [19]) (by kernel_rfl) (by simp) ?_
              refine AllReadyH.cons (by simp only [List.getElem?_toArray, List.getElem?_cons_succ, List.getElem?_cons_zero]; rfl) (fun K hK => ?_) AllReadyH.nil
              go_simp
              (refine (l3Under_no _ _ _ HV.out).mono ?_; rintro e w1 ⟨rfl, hb1⟩)
              refine hK.out _ _ ?_ (fun hHeld => ?_)
              · (try dsimp only); (first | exact ⟨he0, he1, he2, he3, hd0, hd1, hd2, hd3, (Below.refl _ _).drew⟩ | (obtain ⟨k0, k1, k2, k3, k4, k5, k6, k7, k8⟩ := hHeld; have l := Nat.lt_of_lt_of_le hbb k8.size; exact ⟨(hb1.cell l).trans k0, (hb1.cell l).trans k1, (hb1.cell l).trans k2, (hb1.cell l).trans k3, (hb1.cell l).trans k4, (hb1.cell l).trans k5, (hb1.cell l).trans k6, (hb1.cell l).trans k7, k8.trans (hb1.mono k8.size)⟩))
              clear hK K
              try simp only [put_laws]
              refine wpAnyH_take (i := 20) (v := ?vq1_20) (by simp only [List.getElem?_toArray, List.getElem?_cons_succ, List.getElem?_cons_zero]; rfl) (by kernel_rfl) (by kernel_rfl) (by kernel_rfl) (by exact fun _ _ _ h => h) (Or.inl ⟨by rfl, ?hq1_20⟩) hHeld ?rq1_20
              case hq1_20 => (intro w hSw; (try dsimp only at hSw); go_simp; (try with_reducible rfl))
              try simp only [put_laws]
              refine wpAnyH_take (i := 21) (v := ?vq1_21) (by simp only [List.getElem?_toArray, List.getElem?_cons_succ, List.getElem?_cons_zero]; rfl) (by kernel_rfl) (by kernel_rfl) (by kernel_rfl) (by exact fun _ _ _ h => h) (Or.inl ⟨by rfl, ?hq1_21⟩) hHeld ?rq1_21
              case hq1_21 => (intro w hSw; (try dsimp only at hSw); go_simp; (try with_reducible rfl))
              try simp only [put_laws]
              refine wpAnyH_done (by kernel_rfl) ?_ _
              have hbK := hHeld.2.2.2.2.2.2.2.2
              go_wp2
              go_ret
              refine ⟨false, rfl, ?_, hbwi.trans (hbK.mono hbwi.size)⟩
              unfold nestedR
              exact ⟨(fun h => by cases h), fun h => absurd h.2 (pairs_bad HL.out hlt hjk HX HY HO.out)⟩
            · rw [h1, h2] at HO
              have HU := Lib.hid h1
              have HV := Lib.hid h2
              clear h1 h2
              go_wp2
              refine wp_region_held_drew (S := (fun w' => w'.cell? ⟨b, off + k * 4, none⟩ = some (.int .i64 x.f) ∧ w'.cell? ⟨b, off + k * 4 + 1, none⟩ = some (.int .i64 x.t) ∧ w'.cell? ⟨b, off + k * 4 + 2, none⟩ = some (.int .i64 x.r) ∧ w'.cell? ⟨b, off + k * 4 + 3, none⟩ = some (.int .i64 x.u) ∧ w'.cell? ⟨b, off + j * 4, none⟩ = some (.int .i64 y.f) ∧ w'.cell? ⟨b, off + j * 4 + 1, none⟩ = some (.int .i64 y.t) ∧ w'.cell? ⟨b, off + j * 4 + 2, none⟩ = some (.int .i64 y.r) ∧ w'.cell? ⟨b, off + j * 4 + 3, none⟩ = some (.int .i64 y.u) ∧ Below wr.heap.size wr w')) (by kernel_rfl) ?_ (fun hHeld => ?_)
              · (try dsimp only); (first | exact ⟨he0, he1, he2, he3, hd0, hd1, hd2, hd3, (Below.refl _ _).drew⟩ | (obtain ⟨k0, k1, k2, k3, k4, k5, k6, k7, k8⟩ := hHeld; have l := Nat.lt_of_lt_of_le hbb k8.size; exact ⟨(hb1.cell l).trans k0, (hb1.cell l).trans k1, (hb1.cell l).trans k2, (hb1.cell l).trans k3, (hb1.cell l).trans k4, (hb1.cell l).trans k5, (hb1.cell l).trans k6, (hb1.cell l).trans k7, k8.trans (hb1.mono k8.size)⟩))
              refine wpAnyH_take (i := 0) (v := ?vq2_0) (by simp only [List.getElem?_toArray, List.getElem?_cons_zero]; rfl) (by kernel_rfl) (by kernel_rfl) (by kernel_rfl) (by exact fun _ _ _ h => h) (Or.inl ⟨by rfl, ?hq2_0⟩) hHeld ?rq2_0
              case hq2_0 => (intro w hSw; (try dsimp only at hSw); go_simp; (try with_reducible rfl))
              try simp only [put_laws]
              refine wpAnyH_take (i := 1) (v := ?vq2_1) (by simp only [List.getElem?_toArray, List.getElem?_cons_succ, List.getElem?_cons_zero]; rfl) (by kernel_rfl) (by kernel_rfl) (by kernel_rfl) (by exact fun _ _ _ h => h) (Or.inl ⟨by rfl, ?hq2_1⟩) hHeld ?rq2_1
              case hq2_1 => (intro w hSw; (try dsimp only at hSw); go_simp; (try with_reducible rfl))
              try simp only [put_laws]
              refine wpAnyH_take (i := 2) (v := ?vq2_2) (by simp only [List.getElem?_toArray, List.getElem?_cons_succ, List.getElem?_cons_zero]; rfl) (by kernel_rfl) (by kernel_rfl) (by kernel_rfl) (by exact fun _ _ _ h => h) (Or.inl ⟨by rfl, ?hq2_2⟩) hHeld ?rq2_2
              case hq2_2 => (intro w hSw; (try dsimp only at hSw); go_simp; (try with_reducible rfl))
              try simp only [put_laws]
              refine wpAnyH_take (i := 3) (v := ?vq2_3) (by simp only [List.getElem?_toArray, List.getElem?_cons_succ, List.getElem?_cons_zero]; rfl) (by kernel_rfl) (by kernel_rfl) (by kernel_rfl) (by exact fun _ _ _ h => h) (Or.inl ⟨by rfl, ?hq2_3⟩) hHeld ?rq2_3
              case hq2_3 => (intro w hSw; (try dsimp only at hSw); go_simp; (try with_reducible rfl))
              try simp only [put_laws]
              refine wpAnyH_take (i := 4) (v := ?vq2_4) (by simp only [List.getElem?_toArray, List.getElem?_cons_succ, List.getElem?_cons_zero]; rfl) (by kernel_rfl) (by kernel_rfl) (by kernel_rfl) (by exact fun _ _ _ h => h) (Or.inl ⟨by rfl, ?hq2_4⟩) hHeld ?rq2_4
              case hq2_4 => (intro w hSw; (try dsimp only at hSw); go_simp; (try with_reducible rfl))
              try simp only [put_laws]
              refine wpAnyH_take (i := 5) (v := ?vq2_5) (by simp only [List.getElem?_toArray, List.getElem?_cons_succ, List.getElem?_cons_zero]; rfl) (by kernel_rfl) (by kernel_rfl) (by kernel_rfl) (by exact fun _ _ _ h => h) (Or.inl ⟨by rfl, ?hq2_5⟩) hHeld ?rq2_5
              case hq2_5 => (intro w hSw; (try dsimp only at hSw); go_simp; (try with_reducible rfl))
              try simp only [put_laws]
              refine wpAnyH_take (i := 6) (v := ?vq2_6) (by simp only [List.getElem?_toArray, List.getElem?_cons_succ, List.getElem?_cons_zero]; rfl) (by kernel_rfl) (by kernel_rfl) (by kernel_rfl) (by exact fun _ _ _ h => h) (Or.inl ⟨by rfl, ?hq2_6⟩) hHeld ?rq2_6
              case hq2_6 => (intro w hSw; (try dsimp only at hSw); go_simp; (try with_reducible rfl))
              try simp only [put_laws]
              refine wpAnyH_take (i := 7) (v := ?vq2_7) (by simp only [List.getElem?_toArray, List.getElem?_cons_succ, List.getElem?_cons_zero]; rfl) (by kernel_rfl) (by kernel_rfl) (by kernel_rfl) (by exact fun _ _ _ h => h) (Or.inl ⟨by rfl, ?hq2_7⟩) hHeld ?rq2_7
              case hq2_7 => (intro w hSw; (try dsimp only at hSw); go_simp; (try with_reducible rfl))
              try simp only [put_laws]
              refine wpAnyH_ready (rs := [8]) (by kernel_rfl) (by simp) ?_
              refine AllReadyH.cons (by simp only [List.getElem?_toArray, List.getElem?_cons_succ, List.getElem?_cons_zero]; rfl) (fun K hK => ?_) AllReadyH.nil
              go_simp
              (refine (l3Under_no _ _ _ HU.out).mono ?_; rintro e w1 ⟨rfl, hb1⟩)
              refine hK.out _ _ ?_ (fun hHeld => ?_)
              · (try dsimp only); (first | exact ⟨he0, he1, he2, he3, hd0, hd1, hd2, hd3, (Below.refl _ _).drew⟩ | (obtain ⟨k0, k1, k2, k3, k4, k5, k6, k7, k8⟩ := hHeld; have l := Nat.lt_of_lt_of_le hbb k8.size; exact ⟨(hb1.cell l).trans k0, (hb1.cell l).trans k1, (hb1.cell l).trans k2, (hb1.cell l).trans k3, (hb1.cell l).trans k4, (hb1.cell l).trans k5, (hb1.cell l).trans k6, (hb1.cell l).trans k7, k8.trans (hb1.mono k8.size)⟩))
              clear hK K
              try simp only [put_laws]
              refine wpAnyH_take (i := 9) (v := ?vq2_9) (by simp only [List.getElem?_toArray, List.getElem?_cons_succ, List.getElem?_cons_zero]; rfl) (by kernel_rfl) (by kernel_rfl) (by kernel_rfl) (by exact fun _ _ _ h => h) (Or.inl ⟨by rfl, ?hq2_9⟩) hHeld ?rq2_9
              case hq2_9 => (intro w hSw; (try dsimp only at hSw); go_simp; (try with_reducible rfl))
              try simp only [put_laws]
              refine wpAnyH_take (i := 10) (v := ?vq2_10) (by simp only [List.getElem?_toArray, List.getElem?_cons_succ, List.getElem?_cons_zero]; rfl) (by kernel_rfl) (by kernel_rfl) (by kernel_rfl) (by exact fun _ _ _ h => h) (Or.inl ⟨by rfl, ?hq2_10⟩) hHeld ?rq2_10
              case hq2_10 => (intro w hSw; (try dsimp only at hSw); go_simp; (try with_reducible rfl))
              try simp only [put_laws]
              refine wpAnyH_take (i := 11) (v := ?vq2_11) (by simp only [List.getElem?_toArray, List.getElem?_cons_succ, List.getElem?_cons_zero]; rfl) (by kernel_rfl) (by kernel_rfl) (by kernel_rfl) (by exact fun _ _ _ h => h) (Or.inl ⟨by rfl, ?hq2_11⟩) hHeld ?rq2_11
              case hq2_11 => (intro w hSw; (try dsimp only at hSw); go_simp; (try with_reducible rfl))
              try simp only [put_laws]
              refine wpAnyH_take (i := 12) (v := ?vq2_12) (by simp only [List.getElem?_toArray, List.getElem?_cons_succ, List.getElem?_cons_zero]; rfl) (by kernel_rfl) (by kernel_rfl) (by kernel_rfl) (by exact fun _ _ _ h => h) (Or.inl ⟨by rfl, ?hq2_12⟩) hHeld ?rq2_12
              case hq2_12 => (intro w hSw; (try dsimp only at hSw); go_simp; (try with_reducible rfl))
              try simp only [put_laws]
              refine wpAnyH_take (i := 13) (v := ?vq2_13) (by simp only [List.getElem?_toArray, List.getElem?_cons_succ, List.getElem?_cons_zero]; rfl) (by kernel_rfl) (by kernel_rfl) (by kernel_rfl) (by exact fun _ _ _ h => h) (Or.inl ⟨by rfl, ?hq2_13⟩) hHeld ?rq2_13
              case hq2_13 => (intro w hSw; (try dsimp only at hSw); go_simp; (try with_reducible rfl))
              try simp only [put_laws]
              refine wpAnyH_take (i := 14) (v := ?vq2_14) (by simp only [List.getElem?_toArray, List.getElem?_cons_succ, List.getElem?_cons_zero]; rfl) (by kernel_rfl) (by kernel_rfl) (by kernel_rfl) (by exact fun _ _ _ h => h) (Or.inl ⟨by rfl, ?hq2_14⟩) hHeld ?rq2_14
              case hq2_14 => (intro w hSw; (try dsimp only at hSw); go_simp; (try with_reducible rfl))
              try simp only [put_laws]
              refine wpAnyH_take (i := 15) (v := ?vq2_15) (by simp only [List.getElem?_toArray, List.getElem?_cons_succ, List.getElem?_cons_zero]; rfl) (by kernel_rfl) (by kernel_rfl) (by kernel_rfl) (by exact fun _ _ _ h => h) (Or.inl ⟨by rfl, ?hq2_15⟩) hHeld ?rq2_15
              case hq2_15 => (intro w hSw; (try dsimp only at hSw); go_simp; (try with_reducible rfl))
              try simp only [put_laws]
              refine wpAnyH_take (i := 16) (v := ?vq2_16) (by simp only [List.getElem?_toArray, List.getElem?_cons_succ, List.getElem?_cons_zero]; rfl) (by kernel_rfl) (by kernel_rfl) (by kernel_rfl) (by exact fun _ _ _ h => h) (Or.inl ⟨by rfl, ?hq2_16⟩) hHeld ?rq2_16
              case hq2_16 => (intro w hSw; (try dsimp only at hSw); go_simp; (try with_reducible rfl))
              try simp only [put_laws]
              refine wpAnyH_take (i := 17) (v := ?vq2_17) (by simp only [List.getElem?_toArray, List.getElem?_cons_succ, List.getElem?_cons_zero]; rfl) (by kernel_rfl) (by kernel_rfl) (by kernel_rfl) (by exact fun _ _ _ h => h) (Or.inl ⟨by rfl, ?hq2_17⟩) hHeld ?rq2_17
              case hq2_17 => (intro w hSw; (try dsimp only at hSw); go_simp; (try with_reducible rfl))
              try simp only [put_laws]
              refine wpAnyH_take (i := 18) (v := ?vq2_18) (by simp only [List.getElem?_toArray, List.getElem?_cons_succ, List.getElem?_cons_zero]; rfl) (by kernel_rfl) (by kernel_rfl) (by kernel_rfl) (by exact fun _ _ _ h => h) (Or.inl ⟨by rfl, ?hq2_18⟩) hHeld ?rq2_18
              case hq2_18 => (intro w hSw; (try dsimp only at hSw); go_simp; (try with_reducible rfl))
              try simp only [put_laws]
              refine wpAnyH_ready (rs := [19]) (by kernel_rfl) (by simp) ?_
              refine AllReadyH.cons (by simp only [List.getElem?_toArray, List.getElem?_cons_succ, List.getElem?_cons_zero]; rfl) (fun K hK => ?_) AllReadyH.nil
              go_simp
              (refine (l3Under_yes _ _ _ HV.out).mono ?_; rintro e w1 ⟨rfl, hb1⟩)
              refine hK.out _ _ ?_ (fun hHeld => ?_)
              · (try dsimp only); (first | exact ⟨he0, he1, he2, he3, hd0, hd1, hd2, hd3, (Below.refl _ _).drew⟩ | (obtain ⟨k0, k1, k2, k3, k4, k5, k6, k7, k8⟩ := hHeld; have l := Nat.lt_of_lt_of_le hbb k8.size; exact ⟨(hb1.cell l).trans k0, (hb1.cell l).trans k1, (hb1.cell l).trans k2, (hb1.cell l).trans k3, (hb1.cell l).trans k4, (hb1.cell l).trans k5, (hb1.cell l).trans k6, (hb1.cell l).trans k7, k8.trans (hb1.mono k8.size)⟩))
              clear hK K
              try simp only [put_laws]
              refine wpAnyH_take (i := 20) (v := ?vq2_20) (by simp only [List.getElem?_toArray, List.getElem?_cons_succ, List.getElem?_cons_zero]; rfl) (by kernel_rfl) (by kernel_rfl) (by kernel_rfl) (by exact fun _ _ _ h => h) (Or.inl ⟨by rfl, ?hq2_20⟩) hHeld ?rq2_20
              case hq2_20 => (intro w hSw; (try dsimp only at hSw); go_simp; (try with_reducible rfl))
              try simp only [put_laws]
              refine wpAnyH_take (i := 21) (v := ?vq2_21) (by simp only [List.getElem?_toArray, List.getElem?_cons_succ, List.getElem?_cons_zero]; rfl) (by kernel_rfl) (by kernel_rfl) (by kernel_rfl) (by exact fun _ _ _ h => h) (Or.inl ⟨by rfl, ?hq2_21⟩) hHeld ?rq2_21
              case hq2_21 => (intro w hSw; (try dsimp only at hSw); go_simp; (try with_reducible rfl))
              try simp only [put_laws]
              refine wpAnyH_done (by kernel_rfl) ?_ _
              have hbK := hHeld.2.2.2.2.2.2.2.2
              go_wp2
              go_roundw
              case rel =>
                refine ⟨j + 1, by omega, by go_num, fun b' hb' y' hy' => ?_, hbi.trans (hbK.mono hbi.size)⟩
                by_cases he : b' = j
                · subst he
                  have h2 := HY.out
                  rw [h2] at hy'; injection hy' with hy'; subst hy'
                  exact HO.out
                · exact HQ.out b' (by omega) y' hy'
              case measure => simp [intOf]; omega
          · rw [h1, Bool.or_true] at HO
            have HU := Lib.hid h1
            clear h1
            go_wp2
            refine wp_region_held_drew (S := (fun w' => w'.cell? ⟨b, off + k * 4, none⟩ = some (.int .i64 x.f) ∧ w'.cell? ⟨b, off + k * 4 + 1, none⟩ = some (.int .i64 x.t) ∧ w'.cell? ⟨b, off + k * 4 + 2, none⟩ = some (.int .i64 x.r) ∧ w'.cell? ⟨b, off + k * 4 + 3, none⟩ = some (.int .i64 x.u) ∧ w'.cell? ⟨b, off + j * 4, none⟩ = some (.int .i64 y.f) ∧ w'.cell? ⟨b, off + j * 4 + 1, none⟩ = some (.int .i64 y.t) ∧ w'.cell? ⟨b, off + j * 4 + 2, none⟩ = some (.int .i64 y.r) ∧ w'.cell? ⟨b, off + j * 4 + 3, none⟩ = some (.int .i64 y.u) ∧ Below wr.heap.size wr w')) (by kernel_rfl) ?_ (fun hHeld => ?_)
            · (try dsimp only); (first | exact ⟨he0, he1, he2, he3, hd0, hd1, hd2, hd3, (Below.refl _ _).drew⟩ | (obtain ⟨k0, k1, k2, k3, k4, k5, k6, k7, k8⟩ := hHeld; have l := Nat.lt_of_lt_of_le hbb k8.size; exact ⟨(hb1.cell l).trans k0, (hb1.cell l).trans k1, (hb1.cell l).trans k2, (hb1.cell l).trans k3, (hb1.cell l).trans k4, (hb1.cell l).trans k5, (hb1.cell l).trans k6, (hb1.cell l).trans k7, k8.trans (hb1.mono k8.size)⟩))
            refine wpAnyH_take (i := 0) (v := ?vq3_0) (by simp only [List.getElem?_toArray, List.getElem?_cons_zero]; rfl) (by kernel_rfl) (by kernel_rfl) (by kernel_rfl) (by exact fun _ _ _ h => h) (Or.inl ⟨by rfl, ?hq3_0⟩) hHeld ?rq3_0
            case hq3_0 => (intro w hSw; (try dsimp only at hSw); go_simp; (try with_reducible rfl))
            try simp only [put_laws]
            refine wpAnyH_take (i := 1) (v := ?vq3_1) (by simp only [List.getElem?_toArray, List.getElem?_cons_succ, List.getElem?_cons_zero]; rfl) (by kernel_rfl) (by kernel_rfl) (by kernel_rfl) (by exact fun _ _ _ h => h) (Or.inl ⟨by rfl, ?hq3_1⟩) hHeld ?rq3_1
            case hq3_1 => (intro w hSw; (try dsimp only at hSw); go_simp; (try with_reducible rfl))
            try simp only [put_laws]
            refine wpAnyH_take (i := 2) (v := ?vq3_2) (by simp only [List.getElem?_toArray, List.getElem?_cons_succ, List.getElem?_cons_zero]; rfl) (by kernel_rfl) (by kernel_rfl) (by kernel_rfl) (by exact fun _ _ _ h => h) (Or.inl ⟨by rfl, ?hq3_2⟩) hHeld ?rq3_2
            case hq3_2 => (intro w hSw; (try dsimp only at hSw); go_simp; (try with_reducible rfl))
            try simp only [put_laws]
            refine wpAnyH_take (i := 3) (v := ?vq3_3) (by simp only [List.getElem?_toArray, List.getElem?_cons_succ, List.getElem?_cons_zero]; rfl) (by kernel_rfl) (by kernel_rfl) (by kernel_rfl) (by exact fun _ _ _ h => h) (Or.inl ⟨by rfl, ?hq3_3⟩) hHeld ?rq3_3
            case hq3_3 => (intro w hSw; (try dsimp only at hSw); go_simp; (try with_reducible rfl))
            try simp only [put_laws]
            refine wpAnyH_take (i := 4) (v := ?vq3_4) (by simp only [List.getElem?_toArray, List.getElem?_cons_succ, List.getElem?_cons_zero]; rfl) (by kernel_rfl) (by kernel_rfl) (by kernel_rfl) (by exact fun _ _ _ h => h) (Or.inl ⟨by rfl, ?hq3_4⟩) hHeld ?rq3_4
            case hq3_4 => (intro w hSw; (try dsimp only at hSw); go_simp; (try with_reducible rfl))
            try simp only [put_laws]
            refine wpAnyH_take (i := 5) (v := ?vq3_5) (by simp only [List.getElem?_toArray, List.getElem?_cons_succ, List.getElem?_cons_zero]; rfl) (by kernel_rfl) (by kernel_rfl) (by kernel_rfl) (by exact fun _ _ _ h => h) (Or.inl ⟨by rfl, ?hq3_5⟩) hHeld ?rq3_5
            case hq3_5 => (intro w hSw; (try dsimp only at hSw); go_simp; (try with_reducible rfl))
            try simp only [put_laws]
            refine wpAnyH_take (i := 6) (v := ?vq3_6) (by simp only [List.getElem?_toArray, List.getElem?_cons_succ, List.getElem?_cons_zero]; rfl) (by kernel_rfl) (by kernel_rfl) (by kernel_rfl) (by exact fun _ _ _ h => h) (Or.inl ⟨by rfl, ?hq3_6⟩) hHeld ?rq3_6
            case hq3_6 => (intro w hSw; (try dsimp only at hSw); go_simp; (try with_reducible rfl))
            try simp only [put_laws]
            refine wpAnyH_take (i := 7) (v := ?vq3_7) (by simp only [List.getElem?_toArray, List.getElem?_cons_succ, List.getElem?_cons_zero]; rfl) (by kernel_rfl) (by kernel_rfl) (by kernel_rfl) (by exact fun _ _ _ h => h) (Or.inl ⟨by rfl, ?hq3_7⟩) hHeld ?rq3_7
            case hq3_7 => (intro w hSw; (try dsimp only at hSw); go_simp; (try with_reducible rfl))
            try simp only [put_laws]
            refine wpAnyH_ready (rs := [8]) (by kernel_rfl) (by simp) ?_
            refine AllReadyH.cons (by simp only [List.getElem?_toArray, List.getElem?_cons_succ, List.getElem?_cons_zero]; rfl) (fun K hK => ?_) AllReadyH.nil
            go_simp
            (refine (l3Under_yes _ _ _ HU.out).mono ?_; rintro e w1 ⟨rfl, hb1⟩)
            refine hK.out _ _ ?_ (fun hHeld => ?_)
            · (try dsimp only); (first | exact ⟨he0, he1, he2, he3, hd0, hd1, hd2, hd3, (Below.refl _ _).drew⟩ | (obtain ⟨k0, k1, k2, k3, k4, k5, k6, k7, k8⟩ := hHeld; have l := Nat.lt_of_lt_of_le hbb k8.size; exact ⟨(hb1.cell l).trans k0, (hb1.cell l).trans k1, (hb1.cell l).trans k2, (hb1.cell l).trans k3, (hb1.cell l).trans k4, (hb1.cell l).trans k5, (hb1.cell l).trans k6, (hb1.cell l).trans k7, k8.trans (hb1.mono k8.size)⟩))
            clear hK K
            try simp only [put_laws]
            refine wpAnyH_take (i := 9) (v := ?vq3_9) (by simp only [List.getElem?_toArray, List.getElem?_cons_succ, List.getElem?_cons_zero]; rfl) (by kernel_rfl) (by kernel_rfl) (by kernel_rfl) (by exact fun _ _ _ h => h) (Or.inl ⟨by rfl, ?hq3_9⟩) hHeld ?rq3_9
            case hq3_9 => (intro w hSw; (try dsimp only at hSw); go_simp; (try with_reducible rfl))
            try simp only [put_laws]
            refine wpAnyH_take (i := 10) (v := ?vq3_10) (by simp only [List.getElem?_toArray, List.getElem?_cons_succ, List.getElem?_cons_zero]; rfl) (by kernel_rfl) (by kernel_rfl) (by kernel_rfl) (by exact fun _ _ _ h => h) (Or.inl ⟨by rfl, ?hq3_10⟩) hHeld ?rq3_10
            case hq3_10 => (intro w hSw; (try dsimp only at hSw); go_simp; (try with_reducible rfl))
            try simp only [put_laws]
            refine wpAnyH_take (i := 11) (v := undef) (by simp only [List.getElem?_toArray, List.getElem?_cons_succ, List.getElem?_cons_zero]; rfl) (by kernel_rfl) (by kernel_rfl) (by kernel_rfl) (by exact fun _ _ _ h => h) (Or.inr ⟨by rfl, rfl⟩) hHeld ?_
            try simp only [put_laws]
            refine wpAnyH_take (i := 12) (v := undef) (by simp only [List.getElem?_toArray, List.getElem?_cons_succ, List.getElem?_cons_zero]; rfl) (by kernel_rfl) (by kernel_rfl) (by kernel_rfl) (by exact fun _ _ _ h => h) (Or.inr ⟨by rfl, rfl⟩) hHeld ?_
            try simp only [put_laws]
            refine wpAnyH_take (i := 13) (v := undef) (by simp only [List.getElem?_toArray, List.getElem?_cons_succ, List.getElem?_cons_zero]; rfl) (by kernel_rfl) (by kernel_rfl) (by kernel_rfl) (by exact fun _ _ _ h => h) (Or.inr ⟨by rfl, rfl⟩) hHeld ?_
            try simp only [put_laws]
            refine wpAnyH_take (i := 14) (v := undef) (by simp only [List.getElem?_toArray, List.getElem?_cons_succ, List.getElem?_cons_zero]; rfl) (by kernel_rfl) (by kernel_rfl) (by kernel_rfl) (by exact fun _ _ _ h => h) (Or.inr ⟨by rfl, rfl⟩) hHeld ?_
            try simp only [put_laws]
            refine wpAnyH_take (i := 15) (v := undef) (by simp only [List.getElem?_toArray, List.getElem?_cons_succ, List.getElem?_cons_zero]; rfl) (by kernel_rfl) (by kernel_rfl) (by kernel_rfl) (by exact fun _ _ _ h => h) (Or.inr ⟨by rfl, rfl⟩) hHeld ?_
            try simp only [put_laws]
            refine wpAnyH_take (i := 16) (v := undef) (by simp only [List.getElem?_toArray, List.getElem?_cons_succ, List.getElem?_cons_zero]; rfl) (by kernel_rfl) (by kernel_rfl) (by kernel_rfl) (by exact fun _ _ _ h => h) (Or.inr ⟨by rfl, rfl⟩) hHeld ?_
            try simp only [put_laws]
            refine wpAnyH_take (i := 17) (v := undef) (by simp only [List.getElem?_toArray, List.getElem?_cons_succ, List.getElem?_cons_zero]; rfl) (by kernel_rfl) (by kernel_rfl) (by kernel_rfl) (by exact fun _ _ _ h => h) (Or.inr ⟨by rfl, rfl⟩) hHeld ?_
            try simp only [put_laws]
            refine wpAnyH_take (i := 18) (v := undef) (by simp only [List.getElem?_toArray, List.getElem?_cons_succ, List.getElem?_cons_zero]; rfl) (by kernel_rfl) (by kernel_rfl) (by kernel_rfl) (by exact fun _ _ _ h => h) (Or.inr ⟨by rfl, rfl⟩) hHeld ?_
            try simp only [put_laws]
            refine wpAnyH_take (i := 19) (v := undef) (by simp only [List.getElem?_toArray, List.getElem?_cons_succ, List.getElem?_cons_zero]; rfl) (by kernel_rfl) (by kernel_rfl) (by kernel_rfl) (by exact fun _ _ _ h => h) (Or.inr ⟨by rfl, rfl⟩) hHeld ?_
            try simp only [put_laws]
            refine wpAnyH_take (i := 20) (v := undef) (by simp only [List.getElem?_toArray, List.getElem?_cons_succ, List.getElem?_cons_zero]; rfl) (by kernel_rfl) (by kernel_rfl) (by kernel_rfl) (by exact fun _ _ _ h => h) (Or.inr ⟨by rfl, rfl⟩) hHeld ?_
            try simp only [put_laws]
            refine wpAnyH_take (i := 21) (v := ?vq3_21) (by simp only [List.getElem?_toArray, List.getElem?_cons_succ, List.getElem?_cons_zero]; rfl) (by kernel_rfl) (by kernel_rfl) (by kernel_rfl) (by exact fun _ _ _ h => h) (Or.inl ⟨by rfl, ?hq3_21⟩) hHeld ?rq3_21
            case hq3_21 => (intro w hSw; (try dsimp only at hSw); go_simp; (try with_reducible rfl))
            try simp only [put_laws]
            refine wpAnyH_done (by kernel_rfl) ?_ _
            have hbK := hHeld.2.2.2.2.2.2.2.2
            go_wp2
            go_roundw
            case rel =>
              refine ⟨j + 1, by omega, by go_num, fun b' hb' y' hy' => ?_, hbi.trans (hbK.mono hbi.size)⟩
              by_cases he : b' = j
              · subst he
                have h2 := HY.out
                rw [h2] at hy'; injection hy' with hy'; subst hy'
                exact HO.out
              · exact HQ.out b' (by omega) y' hy'
            case measure => simp [intOf]; omega
        · obtain rfl : j = k := by omega
          go_wp2
          go_roundw
          case rel =>
            exact ⟨j + 1, by omega, by go_num, pairs_next HP.out HX HQ.out, below_next hbw hbi⟩
          case measure => simp [intOf]; omega
    · obtain rfl : k = n := by omega
      go_wp2_with fail
      refine (specCarsValid_any A k c ns _ HN.out (hx.below hbw)).mono ?_; rintro e w1 ⟨rfl, hb1⟩
      go_wp2
      go_ret
      refine ⟨_, rfl, ?_, below_next hbw hb1⟩
      unfold nestedR
      rw [HL.out]
      exact ⟨fun h => ⟨h, HP.out⟩, fun h => h.1⟩
set_option maxHeartbeats 4000000 in
theorem nested_any (A : Option Addr) (n c : Nat) (ns : List C4) (w : World) (hn : n ≤ c ∧ c ≤ 9223372036854775807) (hx : CarsAt w A n ns) :
    Calls Tryd.prog 31 #[.slice A n c] w fun e w' => ∃ v, e = .returned (.bool v) ∧ nestedR ns v ∧ Below w.heap.size w w' := by
  have HL := Lib.hid hx.len
  have HN := Lib.hid hn
  obtain ⟨hnc, hcm⟩ := hn
  cases hC : carsB ns
  · have HC := Lib.hid hC
    go_enter Tryd.func31, Tryd.ntmps31
    go_wp2_with fail
    refine (carsValid_any A n c ns _ HN.out hx).mono ?_; rintro e w1 ⟨rfl, hb1⟩
    go_wp2
    go_ret
    refine ⟨false, rfl, ?_, hb1⟩
    unfold nestedR
    exact ⟨(fun h => by cases h), fun h => by rw [HC.out] at h; cases h.1⟩
  have HC := Lib.hid hC
  go_enter Tryd.func31, Tryd.ntmps31
  go_wp2_with fail
  refine (carsValid_any A n c ns _ HN.out hx).mono ?_; rintro e w1 ⟨rfl, hb1⟩
  go_wp2
  clear hC
  go_loopw [12] (fun i wr => ∃ k : Nat, k ≤ n ∧ i = .int .i64 k ∧ PairsTo ns k ∧ Below w.heap.size w wr) (fun i _ => n - (intOf i).toNat)
  case atStart => exact ⟨0, Nat.zero_le _, rfl, fun a h => by omega, hb1⟩
  case round =>
    obtain ⟨k, hk, rfl, hp, hbw⟩ := hrel
    have HP := Lib.hid hp
    clear hp hb1
    obtain ⟨wo, rfl⟩ : ∃ wo : World, wo = wr := ⟨_, rfl⟩
    by_cases hlt : k < n
    · obtain ⟨x, b, off, HX, rfl, hb, hc0, hc1, hc2, hc3⟩ := (hx.below hbw).get hlt
      go_wp2
      have hcp : Whole (wo.alloc (.cells #[.int .i64 x.f, .int .i64 x.t, .int .i64 x.r, .int .i64 x.u] 24)) wo.heap.size 24 [.int .i64 x.f, .int .i64 x.t, .int .i64 x.r, .int .i64 x.u] := Whole.new wo _ _
      have hbo : Below wo.heap.size wo (wo.alloc (.cells #[.int .i64 x.f, .int .i64 x.t, .int .i64 x.r, .int .i64 x.u] 24)) := (Below.refl _ _).alloc (Nat.le_refl _) _
      have hbw1 := below_next hbw hbo
      generalize wo.alloc (.cells #[.int .i64 x.f, .int .i64 x.t, .int .i64 x.r, .int .i64 x.u] 24) = w2 at hcp hbo hbw1 ⊢
      obtain ⟨L, HLo⟩ : ∃ L, Hid (L = wo.heap.size) := ⟨_, rfl⟩
      rw [← HLo.out] at hcp ⊢
      go_loopw [21] (fun i wr => ∃ j : Nat, j ≤ k ∧ i = .int .i64 j ∧ (∀ b, b < j → ∀ y, ns[b]? = some y → pairOk x y = true) ∧ Below w2.heap.size w2 wr) (fun i _ => k - (intOf i).toNat)
      case atStart => exact ⟨0, Nat.zero_le _, rfl, fun i h => by omega, Below.refl _ _⟩
      case round =>
        obtain ⟨j, hj, rfl, hq, hbi⟩ := hrel
        have HQ := Lib.hid hq
        clear hq
        by_cases hjk : j < k
        · have hbwi := below_next hbw1 hbi
          obtain ⟨y, b2, off2, HY, hA2, hb2, hd0, hd1, hd2, hd3⟩ := (hx.below hbwi).get (k := j) (by omega)
          cases hA2
          have hcr := hcp.below hbi
          have hLr := hcr.lt
          have hne : L ≠ wr.heap.size := by omega
          have hbe2 : b ≠ wr.heap.size := by omega
          have hg0 := (hcr.alloc (.cells #[.int .i64 y.f, .int .i64 y.t, .int .i64 y.r, .int .i64 y.u] 24)).cell 0
          have hg1 := (hcr.alloc (.cells #[.int .i64 y.f, .int .i64 y.t, .int .i64 y.r, .int .i64 y.u] 24)).cell 1
          have hg2 := (hcr.alloc (.cells #[.int .i64 y.f, .int .i64 y.t, .int .i64 y.r, .int .i64 y.u] 24)).cell 2
          have hg3 := (hcr.alloc (.cells #[.int .i64 y.f, .int .i64 y.t, .int .i64 y.r, .int .i64 y.u] 24)).cell 3
          simp only [List.getElem?_cons_zero, List.getElem?_cons_succ] at hg0 hg1 hg2 hg3
          have HO : Hid (pairOk x y = (under x y || under y x)) := rfl
          have hbr : Below wr.heap.size wr (wr.alloc (.cells #[.int .i64 y.f, .int .i64 y.t, .int .i64 y.r, .int .i64 y.u] 24)) := (Below.refl _ _).alloc (Nat.le_refl _) _
          have hyw := Whole.new wr 24 [.int .i64 y.f, .int .i64 y.t, .int .i64 y.r, .int .i64 y.u]
          cases h1 : under x y
          · have hU := Lib.hid h1
            go_wp2_with fail
            refine (notGreater_no _ _ _ hU.out).mono ?_; rintro e w3 ⟨rfl, hb3⟩
            have hy3 := hyw.below hb3
            have hc3 := (hcr.alloc _).below hb3
            have hq0 := hy3.cell 0
            have hq1 := hy3.cell 1
            have hq2 := hy3.cell 2
            have hq3 := hy3.cell 3
            have hr0 := hc3.cell 0
            have hr1 := hc3.cell 1
            have hr2 := hc3.cell 2
            have hr3 := hc3.cell 3
            simp only [List.getElem?_cons_zero, List.getElem?_cons_succ] at hq0 hq1 hq2 hq3 hr0 hr1 hr2 hr3
            rw [h1, Bool.false_or] at HO
            clear hg0 hg1 hg2 hg3
            cases h2 : under y x
            · have hV := Lib.hid h2
              rw [h2] at HO
              clear h1 h2
              go_wp2_with fail
              refine (notGreater_no _ _ _ hV.out).mono ?_; rintro e w4 ⟨rfl, hb4⟩
              go_wp2
              go_ret
              refine ⟨false, rfl, ?_, (below_next (below_next (below_next hbwi hbr) hb3) hb4)⟩
              unfold nestedR
              exact ⟨(fun h => by cases h), fun h => absurd h.2 (pairs_bad HL.out hlt hjk HX HY HO.out)⟩
            · have hV := Lib.hid h2
              rw [h2] at HO
              clear h1 h2
              go_wp2_with fail
              refine (notGreater_yes _ _ _ hV.out).mono ?_; rintro e w4 ⟨rfl, hb4⟩
              go_wp2
              go_roundw
              case rel =>
                refine ⟨j + 1, by omega, by go_num, fun b' hb' y' hy' => ?_, (below_next (below_next (below_next hbi hbr) hb3) hb4)⟩
                by_cases he : b' = j
                · subst he
                  have h2 := HY.out
                  rw [h2] at hy'; injection hy' with hy'; subst hy'
                  exact HO.out
                · exact HQ.out b' (by omega) y' hy'
              case measure => simp [intOf]; omega
          · have hU := Lib.hid h1
            rw [h1, Bool.true_or] at HO
            clear h1
            go_wp2_with fail
            refine (notGreater_yes _ _ _ hU.out).mono ?_; rintro e w3 ⟨rfl, hb3⟩
            go_wp2
            go_roundw
            case rel =>
              refine ⟨j + 1, by omega, by go_num, fun b' hb' y' hy' => ?_, below_next (below_next hbi hbr) hb3⟩
              by_cases he : b' = j
              · subst he
                have h2 := HY.out
                rw [h2] at hy'; injection hy' with hy'; subst hy'
                exact HO.out
              · exact HQ.out b' (by omega) y' hy'
            case measure => simp [intOf]; omega
        · obtain rfl : j = k := by omega
          go_wp2
          go_roundw
          case rel =>
            exact ⟨j + 1, by omega, by go_num, pairs_next HP.out HX HQ.out, below_next hbw1 hbi⟩
          case measure => simp [intOf]; omega
    · have hkn : n ≤ k := by omega
      go_wp2
      go_ret
      refine ⟨true, rfl, ?_, hbw⟩
      unfold nestedR
      rw [HL.out]
      obtain rfl : k = n := by omega
      exact ⟨fun _ => ⟨HC.out, HP.out⟩, fun _ => rfl⟩
end Go.Proofs.YtpipbkefelcmbaaDoor
