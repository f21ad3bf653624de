/-
  Halls: how far cells are apart (both texts); has a hall a cell?
-/
import Derived.Test.YtdebjcempkgeaaaGreatDoorHall1
import Derived.Test.YtdebjcempkgeaaaGreatDoorPush
import Derived.Deep.QuietTactic
import Derived.BigQuiet
import Derived.BigRegion
namespace Go.Proofs.YtdebjcempkgeaaaGreatDoor
open Go.ChangeShapes Go.WideShapes Go.ChangeAt Go.RowKit

/-- The columns, rows and cells that a valid hall may have. -/
structure Shp (W D n : Nat) : Prop where
  w1 : 2 ≤ W
  w2 : W ≤ 4
  d1 : 2 ≤ D
  d2 : D ≤ 3
  n : n = W * D
theorem Shp.cases {W D n : Nat} (h : Shp W D n) : (W = 2 ∨ W = 3 ∨ W = 4) ∧ (D = 2 ∨ D = 3) := by
  have := h.w1; have := h.w2; have := h.d1; have := h.d2; omega
theorem Shp.n12 {W D n : Nat} (h : Shp W D n) : 4 ≤ n ∧ n ≤ 12 := by
  rw [h.n]
  obtain ⟨rfl | rfl | rfl, rfl | rfl⟩ := h.cases <;> decide
theorem Shp.all {W D n : Nat} (h : Shp W D n) (p : Nat → Nat → Nat → Bool) (hp : ([(2, 2, 4), (3, 2, 6), (4, 2, 8), (2, 3, 6), (3, 3, 9), (4, 3, 12)].all fun s => p s.1 s.2.1 s.2.2) = true) : p W D n = true := by
  have hn := h.n
  simp only [List.all_cons, List.all_nil, Bool.and_true, Bool.and_eq_true] at hp
  obtain ⟨rfl | rfl | rfl, rfl | rfl⟩ := h.cases <;> subst hn <;> simp_all
theorem Shp.of_hallB {wd dp : Int} {g : List Int} (h : hallB wd dp g = true) : ∃ W D : Nat, wd = W ∧ dp = D ∧ Shp W D g.length := by
  unfold hallB at h
  simp only [Bool.and_eq_true, decide_eq_true_eq] at h
  obtain ⟨⟨⟨⟨⟨h1, h2⟩, h3⟩, h4⟩, h5⟩, -⟩ := h
  obtain ⟨W, rfl⟩ : ∃ W : Nat, wd = W := ⟨wd.toNat, by omega⟩
  obtain ⟨D, rfl⟩ : ∃ D : Nat, dp = D := ⟨dp.toNat, by omega⟩
  exact ⟨W, D, rfl, rfl, by omega, by omega, by omega, by omega, by exact_mod_cast h5⟩

/-- Over how many cells the way from a cell to another one goes. -/
def apN (W a b : Nat) : Nat := (a % W - b % W) + (b % W - a % W) + ((a / W - b / W) + (b / W - a / W))

theorem max2 {x y m : Int} (h : Hid (m = max x y)) (ts : Array TypeId) (ty : TypeId) (w : World) : (Builtin.max_ ts ty #[.int .i64 x, .int .i64 y]).run Tryz.prog w = .ok (.int .i64 m) w := by
  have h' := h.out
  rw [run_max_int2]
  congr 2
  split <;> omega
set_option maxHeartbeats 1000000 in
theorem apart_any (W a b : Nat) (w : World) (hW : 2 ≤ W ∧ W ≤ 4) (ha : a ≤ 12) (hb : b ≤ 12) :
    Calls Tryz.prog 77 #[.int .i64 W, .int .i64 a, .int .i64 b] w (RV w (.int .i64 (apN W a b : Nat))) := by
  have hm1 : a % W < W := Nat.mod_lt _ (by omega)
  have hm2 : b % W < W := Nat.mod_lt _ (by omega)
  have hd1 : a / W ≤ 12 := Nat.le_trans (Nat.div_le_self _ _) ha
  have hd2 : b / W ≤ 12 := Nat.le_trans (Nat.div_le_self _ _) hb
  have e1 : ((a : Int)).tmod (W : Int) = ((a % W : Nat) : Int) := by rw [Int.tmod_eq_emod_of_nonneg (by omega)]; rfl
  have e2 : ((b : Int)).tmod (W : Int) = ((b % W : Nat) : Int) := by rw [Int.tmod_eq_emod_of_nonneg (by omega)]; rfl
  have e3 : ((a : Int)).tdiv (W : Int) = ((a / W : Nat) : Int) := by rw [Int.tdiv_eq_ediv_of_nonneg (by omega)]; rfl
  have e4 : ((b : Int)).tdiv (W : Int) = ((b / W : Nat) : Int) := by rw [Int.tdiv_eq_ediv_of_nonneg (by omega)]; rfl
  have HA : Hid (((apN W a b : Nat) : Int) = max (((a % W : Nat) : Int) - ((b % W : Nat) : Int)) (-(((a % W : Nat) : Int) - ((b % W : Nat) : Int))) + max (((a / W : Nat) : Int) - ((b / W : Nat) : Int)) (-(((a / W : Nat) : Int) - ((b / W : Nat) : Int)))) := by
    refine Lib.hid ?_
    unfold apN
    generalize a % W = x1
    generalize b % W = x2
    generalize a / W = x3
    generalize b / W = x4
    omega
  have e5 : (a : Int) % (W : Int) = ((a % W : Nat) : Int) := rfl
  have e6 : (b : Int) % (W : Int) = ((b % W : Nat) : Int) := rfl
  have e7 : (a : Int) / (W : Int) = ((a / W : Nat) : Int) := rfl
  have e8 : (b : Int) / (W : Int) = ((b / W : Nat) : Int) := rfl
  generalize a % W = x1 at *
  generalize b % W = x2 at *
  generalize a / W = x3 at *
  generalize b / W = x4 at *
  obtain ⟨y1, hy1⟩ : ∃ y : Int, Hid (y = (x1 : Int) - x2) := ⟨_, rfl⟩
  obtain ⟨y2, hy2⟩ : ∃ y : Int, Hid (y = (x3 : Int) - x4) := ⟨_, rfl⟩
  have b1 : -12 ≤ y1 ∧ y1 ≤ 12 := by have := hy1.out; omega
  have b2 : -12 ≤ y2 ∧ y2 ≤ 12 := by have := hy2.out; omega
  have s1 : IntKind.i64.wrap ((x1 : Int) - x2) = y1 := by rw [hy1.out]; exact IntWalk.i64_in _ (by omega)
  have s2 : IntKind.i64.wrap ((x3 : Int) - x4) = y2 := by rw [hy2.out]; exact IntWalk.i64_in _ (by omega)
  obtain ⟨m1, hm1'⟩ : ∃ y : Int, Hid (y = max y1 (-y1)) := ⟨_, rfl⟩
  obtain ⟨m2, hm2'⟩ : ∃ y : Int, Hid (y = max y2 (-y2)) := ⟨_, rfl⟩
  have c1 : 0 ≤ m1 ∧ m1 ≤ 12 := by have := hm1'.out; omega
  have c2 : 0 ≤ m2 ∧ m2 ≤ 12 := by have := hm2'.out; omega
  have q1 : ∀ (ts : Array TypeId) (ty : TypeId) (w : World), (Builtin.max_ ts ty #[.int .i64 y1, .int .i64 (-y1)]).run Tryz.prog w = .ok (.int .i64 m1) w := max2 hm1'
  have q2 : ∀ (ts : Array TypeId) (ty : TypeId) (w : World), (Builtin.max_ ts ty #[.int .i64 y2, .int .i64 (-y2)]).run Tryz.prog w = .ok (.int .i64 m2) w := max2 hm2'
  have HR : Hid (((apN W a b : Nat) : Int) = m1 + m2) := Lib.hid (by rw [HA.out, hm1'.out, hm2'.out, hy1.out, hy2.out])
  rw [HR.out]
  clear HA HR
  go_enter Tryz.func77, Tryz.ntmps77
  go_wp2
  go_quiet (fail)
  go_wp2
  go_quiet (fail)
  clear s1 s2 e1 e2 e3 e4 e5 e6 e7 e8
  go_wp2
  go_ret
  exact ⟨rfl, below_drewN (Below.refl _ _) _⟩
set_option maxHeartbeats 1000000 in
theorem l1Far_any (x y : Int) (w : World) (hx : 0 ≤ x ∧ x ≤ 12) (hy : 0 ≤ y ∧ y ≤ 12) (m : Int) (hm : m = max (x - y) (y - x)) :
    Calls Tryz.prog 99 #[.int .i64 x, .int .i64 y] w (RS w (.int .i64 m)) := by
  obtain ⟨p, hp⟩ : ∃ p : Int, Hid (p = x - y) := ⟨_, rfl⟩
  obtain ⟨q, hq⟩ : ∃ q : Int, Hid (q = y - x) := ⟨_, rfl⟩
  have HM : Hid (m = max p q) := Lib.hid (by rw [hp.out, hq.out]; exact hm)
  have q1 := max2 HM
  clear hm
  have s1 : IntKind.i64.wrap (x - y) = p := by rw [hp.out]; exact IntWalk.i64_in _ (by omega)
  have s2 : IntKind.i64.wrap (y - x) = q := by rw [hq.out]; exact IntWalk.i64_in _ (by omega)
  have r1 : x - y = p := hp.out.symm
  have r2 : y - x = q := hq.out.symm
  go_enter Tryz.func99, Tryz.ntmps99
  go_wp2
  go_ret
  exact ⟨rfl, rfl⟩
theorem l1Far_same (x y : Int) (w : World) (hx : 0 ≤ x ∧ x ≤ 12) (hy : 0 ≤ y ∧ y ≤ 12) (m : Int) (hm : m = max (x - y) (y - x)) :
    Calls Tryz.prog 99 #[.int .i64 x, .int .i64 y] w fun e w' => e = .returned (.int .i64 m) ∧ w' = w :=
  (l1Far_any x y w hx hy m hm).mono fun _ _ ⟨h1, h2⟩ => ⟨h1, h2.symm⟩
set_option maxRecDepth 100000 in
set_option maxHeartbeats 1000000 in
theorem l1Apart_any (W a b : Nat) (w : World) (hW : 2 ≤ W ∧ W ≤ 4) (ha : a ≤ 12) (hb : b ≤ 12) :
    Calls Tryz.prog 91 #[.int .i64 W, .int .i64 a, .int .i64 b] w (RV w (.int .i64 (apN W a b : Nat))) := by
  have hm1 : a % W < W := Nat.mod_lt _ (by omega)
  have hm2 : b % W < W := Nat.mod_lt _ (by omega)
  have hd1 : a / W ≤ 12 := Nat.le_trans (Nat.div_le_self _ _) ha
  have hd2 : b / W ≤ 12 := Nat.le_trans (Nat.div_le_self _ _) hb
  have e1 : ((a : Int)).tmod (W : Int) = ((a % W : Nat) : Int) := by rw [Int.tmod_eq_emod_of_nonneg (by omega)]; rfl
  have e2 : ((b : Int)).tmod (W : Int) = ((b % W : Nat) : Int) := by rw [Int.tmod_eq_emod_of_nonneg (by omega)]; rfl
  have e3 : ((a : Int)).tdiv (W : Int) = ((a / W : Nat) : Int) := by rw [Int.tdiv_eq_ediv_of_nonneg (by omega)]; rfl
  have e4 : ((b : Int)).tdiv (W : Int) = ((b / W : Nat) : Int) := by rw [Int.tdiv_eq_ediv_of_nonneg (by omega)]; rfl
  have HA : Hid (((apN W a b : Nat) : Int) = max (((a % W : Nat) : Int) - ((b % W : Nat) : Int)) (((b % W : Nat) : Int) - ((a % W : Nat) : Int)) + max (((a / W : Nat) : Int) - ((b / W : Nat) : Int)) (((b / W : Nat) : Int) - ((a / W : Nat) : Int))) := by
    refine Lib.hid ?_
    unfold apN
    generalize a % W = x1
    generalize b % W = x2
    generalize a / W = x3
    generalize b / W = x4
    omega
  have e5 : (a : Int) % (W : Int) = ((a % W : Nat) : Int) := rfl
  have e6 : (b : Int) % (W : Int) = ((b % W : Nat) : Int) := rfl
  have e7 : (a : Int) / (W : Int) = ((a / W : Nat) : Int) := rfl
  have e8 : (b : Int) / (W : Int) = ((b / W : Nat) : Int) := rfl
  generalize a % W = x1 at *
  generalize b % W = x2 at *
  generalize a / W = x3 at *
  generalize b / W = x4 at *
  obtain ⟨m1, hm1'⟩ : ∃ y : Int, Hid (y = max ((x1 : Int) - x2) (x2 - x1)) := ⟨_, rfl⟩
  obtain ⟨m2, hm2'⟩ : ∃ y : Int, Hid (y = max ((x3 : Int) - x4) (x4 - x3)) := ⟨_, rfl⟩
  have c1 : 0 ≤ m1 ∧ m1 ≤ 12 := by have := hm1'.out; omega
  have c2 : 0 ≤ m2 ∧ m2 ≤ 12 := by have := hm2'.out; omega
  have HR : Hid (((apN W a b : Nat) : Int) = m1 + m2) := Lib.hid (by rw [HA.out, hm1'.out, hm2'.out])
  have hs : IntKind.i64.wrap (m1 + m2) = m1 + m2 := IntWalk.i64_in _ (by omega)
  have f1 := l1Far_same (x1 : Int) x2 (m := m1) (hx := by omega) (hy := by omega) (hm := hm1'.out)
  have f2 := l1Far_same (x3 : Int) x4 (m := m2) (hx := by omega) (hy := by omega) (hm := hm2'.out)
  rw [HR.out]
  clear HA HR
  go_enter Tryz.func91, Tryz.ntmps91
  go_wp2
  go_quiet ((go_at_call 99; first | (with_reducible exact Calls.quiet_of_same (f1 _)) | (with_reducible exact Calls.quiet_of_same (f2 _))))
  clear e1 e2 e3 e4 e5 e6 e7 e8
  go_wp2
  go_ret
  exact ⟨rfl, below_drewN (Below.refl _ _) _⟩
end Go.Proofs.YtdebjcempkgeaaaGreatDoor
