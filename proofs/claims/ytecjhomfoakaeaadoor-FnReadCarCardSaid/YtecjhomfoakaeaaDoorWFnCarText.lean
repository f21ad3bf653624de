/-
  The law FnCarText: ReadCar of the text of a car is the car.
-/
import Derived.Test.YtecjhomfoakaeaaDoorDrCar
import Derived.Test.YtecjhomfoakaeaaDoorAlive
import Derived.Test.YtecjhomfoakaeaaDoorRAns
namespace Go.Proofs.YtecjhomfoakaeaaDoor
open Go.ChangeShapes Go.WideShapes Go.ChangeAt Go.RowKit

def DrawCR (w : World) (e : Ending) (w' : World) : Prop :=
  ∃ f t r u : Int, e = .returned (.agg #[.int .i64 f, .int .i64 t, .int .i64 r, .int .i64 u]) ∧ CarIn f t r u ∧ Below w.heap.size w w'
set_option maxHeartbeats 1000000 in
theorem drawCarText_any (w : World) (A : Option Addr) (n c : Nat) (bs : List Int) (hn : n ≤ c ∧ c ≤ 9223372036854775807) (hb : BytesAt w A n bs) :
    Calls Tryd.prog 9 #[.slice A n c] w (DrawCR w) := by
  have hQ1 : Whole (w.alloc (.cells #[.int .i64 0, .int .i64 0, .int .i64 0, .int .i64 0] 23)) w.heap.size 23 [.int .i64 0, .int .i64 0, .int .i64 0, .int .i64 0] := Whole.new w _ _
  have hB1 : Below w.heap.size w (w.alloc (.cells #[.int .i64 0, .int .i64 0, .int .i64 0, .int .i64 0] 23)) := (Below.refl _ _).alloc (Nat.le_refl _) _
  go_enter Tryd.func9, Tryd.ntmps9
  go_wp2_with fail
  generalize w.alloc (.cells #[.int .i64 0, .int .i64 0, .int .i64 0, .int .i64 0] 23) = w1 at hQ1 hB1 ⊢
  refine (open_any w1 A n c bs hn (hb.below hB1)).mono ?_; rintro e w2 ⟨R, A1, n1, c1, bs1, rfl, hR2⟩
  go_wp2_with fail
  refine (pick_any w1 w2 R A1 n1 c1 bs1 0 90 hR2 (by omega)).mono ?_; rintro e w4 ⟨i, rfl, hi0, hi1, -, hR4, hf4⟩
  replace hi1 := hi1 (by omega)
  have hxi : IntKind.i64.wrap (1 + i) = 1 + i := IntWalk.i64_in _ (by omega)
  go_wp2_with fail
  refine (l20CarOf_any w1 w4 R A1 n1 c1 bs1 (0 + 1) (1 + i) 6 hR4 (by omega) (by omega) (by omega) (by omega) (by omega)).mono ?_; rintro e w3 ⟨f, t, r, u, rfl, hC, hR3, hf3⟩
  have hQ3 := hQ1.below hR3.bw
  have hB3 := below_next hB1 hR3.bw
  obtain ⟨Q, HQ⟩ : ∃ Q, Hid (Q = w.heap.size) := ⟨_, rfl⟩
  rw [← HQ.out] at hQ3 ⊢
  have hQw : w.heap.size ≤ Q := Nat.le_of_eq HQ.out.symm
  have hq0 := hQ3.cell 0
  have hq1 := hQ3.cell 1
  have hq2 := hQ3.cell 2
  have hq3 := hQ3.cell 3
  simp only [List.getElem?_cons_zero, List.getElem?_cons_succ] at hq0 hq1 hq2 hq3
  have hz0 := hQ3.free 0
  have hz1 := hQ3.free 1
  have hz2 := hQ3.free 2
  have hz3 := hQ3.free 3
  have HB3 := Lib.hid hB3
  have HR3 := Lib.hid hR3
  have HC := Lib.hid hC
  clear hQ1 hB1 hR2 hR3 hR4 hf4 hB3 hf3 hb hC hxi
  go_wp2
  have hW := (((hQ3.set_ 0 (.int .i64 f)).set_ 1 (.int .i64 t)).set_ 2 (.int .i64 r)).set_ 3 (.int .i64 u)
  have hG : Below w.heap.size w ((((w3.setCell ⟨Q, 0, none⟩ (.int .i64 f)).setCell ⟨Q, 1, none⟩ (.int .i64 t)).setCell ⟨Q, 2, none⟩ (.int .i64 r)).setCell ⟨Q, 3, none⟩ (.int .i64 u)) := (((HB3.out.setCell hQw _).setCell hQw _).setCell hQw _).setCell hQw _
  generalize ((((w3.setCell ⟨Q, 0, none⟩ (.int .i64 f)).setCell ⟨Q, 1, none⟩ (.int .i64 t)).setCell ⟨Q, 2, none⟩ (.int .i64 r)).setCell ⟨Q, 3, none⟩ (.int .i64 u)) = wz at hW hG ⊢
  have e0 : wz.cell? ⟨Q, 0, none⟩ = some (.int .i64 f) := hW.cell 0
  have e1 : wz.cell? ⟨Q, 1, none⟩ = some (.int .i64 t) := hW.cell 1
  have e2 : wz.cell? ⟨Q, 2, none⟩ = some (.int .i64 r) := hW.cell 2
  have e3 : wz.cell? ⟨Q, 3, none⟩ = some (.int .i64 u) := hW.cell 3
  exact bodyPost_ret (v := .agg #[.int .i64 f, .int .i64 t, .int .i64 r, .int .i64 u]) (by simp [results, Tryd.results9, go_sem, e0, e1, e2, e3]) rfl ⟨f, t, r, u, rfl, HC.out, hG⟩

theorem carT_len (f t r u : Int) : (carT f t r u).length ≤ 100 := by
  unfold carT
  split
  · have h1 := numT_len f.toNat
    have h2 := numT_len t.toNat
    have h3 := numT_len r.toNat
    have h4 := numT_len u.toNat
    simp; omega
  · simp
theorem carT_ne {f t r u : Int} (h : carB f t r u = true) : carT f t r u ≠ [] := by
  unfold carT; rw [h]; simp
theorem carT_off {f t r u : Int} (h : carB f t r u = false) : carT f t r u = [] := by
  unfold carT; rw [h]; rfl
theorem ReadAns.self {f t r u f' t' r' u' : Int} {b : Bool} (hv : carB f t r u = true) (h : ReadAns (carT f t r u) f' t' r' u' b) : f' = f ∧ t' = t ∧ r' = r ∧ u' = u ∧ b = true :=
  h.one (.inl ⟨rfl, hv, rfl⟩)

set_option maxRecDepth 100000 in
set_option maxHeartbeats 4000000 in
theorem lawCarText (A : Option Addr) (n c : Nat) (bs : List Int) (w : World) (m : Int) (hm : w.cell? ⟨0, 0, none⟩ = some (.int .i64 m)) (h0 : 0 < w.heap.size) (hn : n ≤ c ∧ c ≤ 9223372036854775807) (hb : BytesAt w A n bs) :
    Calls Tryd.prog 4 #[.slice A n c] w (RV w (.bool true)) := by
  obtain ⟨hn1, hn2⟩ := hn
  by_cases hbig : 1048576 < n
  · have hd : decide (1048576 < n) = true := by simpa using hbig
    go_enter Tryd.func4, Tryd.ntmps4
    go_wp2
    go_ret
    exact ⟨rfl, Below.refl _ _⟩
  have hd : decide (1048576 < n) = false := by simpa using hbig
  have HB := Lib.hid hb
  have HM := Lib.hid hm
  clear hb hm
  go_enter Tryd.func4, Tryd.ntmps4
  go_wp2_with fail
  refine (drawCarText_any w A n c bs ⟨hn1, hn2⟩ HB.out).mono ?_; rintro e w1 ⟨f, t, r, u, rfl, -, hb1⟩
  go_wp2_with fail
  have hN2 : Whole (w1.alloc (.cells #[.int .i64 f, .int .i64 t, .int .i64 r, .int .i64 u] 23)) w1.heap.size 23 [.int .i64 f, .int .i64 t, .int .i64 r, .int .i64 u] := Whole.new w1 _ _
  have hB2 : Below w.heap.size w (w1.alloc (.cells #[.int .i64 f, .int .i64 t, .int .i64 r, .int .i64 u] 23)) := hb1.alloc (by have := hb1.size; omega) _
  generalize w1.alloc (.cells #[.int .i64 f, .int .i64 t, .int .i64 r, .int .i64 u] 23) = w2 at hN2 hB2 ⊢
  obtain ⟨N, HN⟩ : ∃ N, Hid (N = w1.heap.size) := ⟨_, rfl⟩
  rw [← HN.out] at hN2 ⊢
  clear HB hb1
  refine (carText_any f t r u w2).mono ?_; rintro e w3 ⟨rfl, hb3⟩
  have hN3 := hN2.below hb3
  have hB3 := below_next hB2 hb3
  clear hN2 hB2 hb3
  have hc0 := hN3.cell 0
  have hc1 := hN3.cell 1
  have hc2 := hN3.cell 2
  have hc3 := hN3.cell 3
  simp only [List.getElem?_cons_zero, List.getElem?_cons_succ] at hc0 hc1 hc2 hc3
  obtain ⟨T, HT⟩ : ∃ x, Hid (x = carT f t r u) := ⟨_, rfl⟩
  have hT1 : T.length ≤ 100 := by rw [HT.out]; exact carT_len f t r u
  have hsp := specCarText_any f t r u
  rw [← HT.out] at hsp ⊢
  go_wp2_with fail
  refine (hsp w3).mono ?_; rintro e w4 ⟨rfl, hb4⟩
  have hN4 := hN3.below hb4
  have hB4 := below_next hB3 hb4
  clear hN3 hB3 hb4 hc0 hc1 hc2 hc3 hsp
  have hc0 := hN4.cell 0
  have hc1 := hN4.cell 1
  have hc2 := hN4.cell 2
  have hc3 := hN4.cell 3
  simp only [List.getElem?_cons_zero, List.getElem?_cons_succ] at hc0 hc1 hc2 hc3
  have hsame : (T == T) = true := by simp
  cases hv : carB f t r u
  · have hT0 : T = [] := by rw [HT.out]; exact carT_off hv
    have HV := Lib.hid hv
    clear hv
    subst hT0
    go_wp2_with fail
    refine (carValid_any f t r u _).mono ?_; rintro e w5 ⟨rfl, hb5⟩
    have hB5 := below_next hB4 hb5
    rw [HV.out]
    clear hN4 hB4 hb5 hc0 hc1 hc2 hc3
    go_wp2_with fail
    refine (alive_any _).mono ?_; rintro e w6 ⟨rfl, hb6⟩
    have hB6 := below_next hB5 hb6
    go_wp2
    go_ret
    exact ⟨rfl, hB6⟩
  have hTn : T ≠ [] := by rw [HT.out]; exact carT_ne hv
  have hte : T.isEmpty = false := by simpa using hTn
  have hte2 : (T == []) = false := by simpa using hTn
  have HV := Lib.hid hv
  clear hv hTn
  have hm4 : w4.cell? ⟨0, 0, none⟩ = some (.int .i64 m) := (hB4.cell (p := ⟨0, 0, none⟩) h0).trans HM.out
  have h04 : 0 < w4.heap.size := Nat.lt_of_lt_of_le h0 hB4.size
  have HM4 := Lib.hid hm4
  clear hm4
  go_wp2_with fail
  refine (implReadCar_out T w4 (by omega) m HM4.out h04).mono ?_; rintro e w5 ⟨f', t', r', u', b, HA, rfl, hb5⟩
  have hN5 := hN4.below hb5
  have hB5 := below_next hB4 hb5
  have hA := HA.out
  rw [HT.out] at hA
  obtain ⟨rfl, rfl, rfl, rfl, rfl⟩ := hA.self HV.out
  have hlt := hN5.lt
  clear hN4 hB4 hb5 hc0 hc1 hc2 hc3 HA
  have hc0 := hN5.cell 0
  have hc1 := hN5.cell 1
  have hc2 := hN5.cell 2
  have hc3 := hN5.cell 3
  simp only [List.getElem?_cons_zero, List.getElem?_cons_succ] at hc0 hc1 hc2 hc3
  have hB6 := hB5.alloc hB5.size (.cells #[.int .i64 f', .int .i64 t', .int .i64 r', .int .i64 u'] 23)
  go_wp2
  go_ret
  exact ⟨rfl, hB6⟩
end Go.Proofs.YtecjhomfoakaeaaDoor
