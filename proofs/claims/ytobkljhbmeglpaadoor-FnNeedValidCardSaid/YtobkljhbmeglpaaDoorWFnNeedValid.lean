/-
  The law FnNeedValid: a valid need stays valid with the last hour as its end; with the beginning as its end it is not.
-/
import Derived.Test.YtobkljhbmeglpaaDoorDrNeed
import Derived.Test.YtobkljhbmeglpaaDoorAlive
import Derived.Test.YtobkljhbmeglpaaDoorNeed1
namespace Go.Proofs.YtobkljhbmeglpaaDoor
open Go.ChangeShapes Go.WideShapes Go.ChangeAt Go.RowKit

def DrawNR (w : World) (e : Ending) (w' : World) : Prop :=
  ∃ f t r u : Int, e = .returned (.agg #[.int .i64 f, .int .i64 t, .int .i64 r, .int .i64 u]) ∧ Below w.heap.size w w'
set_option maxHeartbeats 1000000 in
theorem drawNeedValid_any (w : World) (A : Option Addr) (n c : Nat) (bs : List Int) (hn : n ≤ c ∧ c ≤ 9223372036854775807) (hb : BytesAt w A n bs) :
    Calls Tryd.prog 13 #[.slice A n c] w (DrawNR w) := by
  have hQ1 : Whole (w.alloc (.cells #[.int .i64 0, .int .i64 0, .int .i64 0, .int .i64 0] 24)) w.heap.size 24 [.int .i64 0, .int .i64 0, .int .i64 0, .int .i64 0] := Whole.new w _ _
  have hB1 : Below w.heap.size w (w.alloc (.cells #[.int .i64 0, .int .i64 0, .int .i64 0, .int .i64 0] 24)) := (Below.refl _ _).alloc (Nat.le_refl _) _
  go_enter Tryd.func13, Tryd.ntmps13
  go_wp2_with fail
  generalize w.alloc (.cells #[.int .i64 0, .int .i64 0, .int .i64 0, .int .i64 0] 24) = w1 at hQ1 hB1 ⊢
  refine (open_any w1 A n c bs hn (hb.below hB1)).mono ?_; rintro e w2 ⟨R, A1, n1, c1, bs1, rfl, hR2⟩
  go_wp2_with fail
  refine (l20Need_any w1 w2 R A1 n1 c1 bs1 0 2 hR2 (by omega) (by omega) (by omega)).mono ?_; rintro e w3 ⟨f, t, r, u, rfl, hR3, hf3⟩
  have hQ3 := hQ1.below hR3.bw
  have hB3 := below_next hB1 hR3.bw
  obtain ⟨Q, HQ⟩ : ∃ Q, Hid (Q = w.heap.size) := ⟨_, rfl⟩
  rw [← HQ.out] at hQ3 ⊢
  have hQw : w.heap.size ≤ Q := Nat.le_of_eq HQ.out.symm
  have hq0 := hQ3.cell 0
  have hq1 := hQ3.cell 1
  have hq2 := hQ3.cell 2
  have hq3 := hQ3.cell 3
  simp only [List.getElem?_cons_zero, List.getElem?_cons_succ] at hq0 hq1 hq2 hq3
  have hz0 := hQ3.free 0
  have hz1 := hQ3.free 1
  have hz2 := hQ3.free 2
  have hz3 := hQ3.free 3
  have HB3 := Lib.hid hB3
  have HR3 := Lib.hid hR3
  clear hQ1 hB1 hR2 hR3 hB3 hf3 hb
  go_wp2
  have hW := (((hQ3.set_ 0 (.int .i64 f)).set_ 1 (.int .i64 t)).set_ 2 (.int .i64 r)).set_ 3 (.int .i64 u)
  have hG : Below w.heap.size w ((((w3.setCell ⟨Q, 0, none⟩ (.int .i64 f)).setCell ⟨Q, 1, none⟩ (.int .i64 t)).setCell ⟨Q, 2, none⟩ (.int .i64 r)).setCell ⟨Q, 3, none⟩ (.int .i64 u)) := (((HB3.out.setCell hQw _).setCell hQw _).setCell hQw _).setCell hQw _
  generalize ((((w3.setCell ⟨Q, 0, none⟩ (.int .i64 f)).setCell ⟨Q, 1, none⟩ (.int .i64 t)).setCell ⟨Q, 2, none⟩ (.int .i64 r)).setCell ⟨Q, 3, none⟩ (.int .i64 u)) = wz at hW hG ⊢
  have e0 : wz.cell? ⟨Q, 0, none⟩ = some (.int .i64 f) := hW.cell 0
  have e1 : wz.cell? ⟨Q, 1, none⟩ = some (.int .i64 t) := hW.cell 1
  have e2 : wz.cell? ⟨Q, 2, none⟩ = some (.int .i64 r) := hW.cell 2
  have e3 : wz.cell? ⟨Q, 3, none⟩ = some (.int .i64 u) := hW.cell 3
  exact bodyPost_ret (v := .agg #[.int .i64 f, .int .i64 t, .int .i64 r, .int .i64 u]) (by simp [results, Tryd.results13, go_sem, e0, e1, e2, e3]) rfl ⟨f, t, r, u, rfl, hG⟩

set_option maxRecDepth 100000 in
set_option maxHeartbeats 4000000 in
theorem lawNeedValid (A : Option Addr) (n c : Nat) (bs : List Int) (w : World) (hn : n ≤ c ∧ c ≤ 9223372036854775807) (hb : BytesAt w A n bs) :
    Calls Tryd.prog 3 #[.slice A n c] w (RV w (.bool true)) := by
  obtain ⟨hn1, hn2⟩ := hn
  by_cases hbig : 1048576 < n
  · have hd : decide (1048576 < n) = true := by simpa using hbig
    go_enter Tryd.func3, Tryd.ntmps3
    go_wp2
    go_ret
    exact ⟨rfl, Below.refl _ _⟩
  have hd : decide (1048576 < n) = false := by simpa using hbig
  have HB := Lib.hid hb
  clear hb
  go_enter Tryd.func3, Tryd.ntmps3
  go_wp2_with fail
  refine (drawNeedValid_any w A n c bs ⟨hn1, hn2⟩ HB.out).mono ?_; rintro e w1 ⟨f, t, r, u, rfl, hb1⟩
  go_wp2_with fail
  have hN2 : Whole (w1.alloc (.cells #[.int .i64 f, .int .i64 t, .int .i64 r, .int .i64 u] 24)) w1.heap.size 24 [.int .i64 f, .int .i64 t, .int .i64 r, .int .i64 u] := Whole.new w1 _ _
  have hB2 : Below w.heap.size w (w1.alloc (.cells #[.int .i64 f, .int .i64 t, .int .i64 r, .int .i64 u] 24)) := hb1.alloc (by have := hb1.size; omega) _
  generalize w1.alloc (.cells #[.int .i64 f, .int .i64 t, .int .i64 r, .int .i64 u] 24) = w2 at hN2 hB2 ⊢
  obtain ⟨N, HN⟩ : ∃ N, Hid (N = w1.heap.size) := ⟨_, rfl⟩
  rw [← HN.out] at hN2 ⊢
  clear HB hb1
  refine (needValid_any f t r u w2).mono ?_; rintro e w3 ⟨rfl, hb3⟩
  have hN3 := hN2.below hb3
  have hB3 := below_next hB2 hb3
  clear hN2 hB2 hb3
  have hc0 := hN3.cell 0
  have hc1 := hN3.cell 1
  have hc2 := hN3.cell 2
  have hc3 := hN3.cell 3
  simp only [List.getElem?_cons_zero, List.getElem?_cons_succ] at hc0 hc1 hc2 hc3
  go_wp2_with fail
  refine (specNeedValid_any f t r u w3).mono ?_; rintro e w4 ⟨rfl, hb4⟩
  have hN4 := hN3.below hb4
  have hB4 := below_next hB3 hb4
  clear hN3 hB3 hb4 hc0 hc1 hc2 hc3
  have hc0 := hN4.cell 0
  have hc1 := hN4.cell 1
  have hc2 := hN4.cell 2
  have hc3 := hN4.cell 3
  simp only [List.getElem?_cons_zero, List.getElem?_cons_succ] at hc0 hc1 hc2 hc3
  have hsame : (nvB f t r u == nvB f t r u) = true := by simp
  have hN5 := hN4.alloc (.cells #[.int .i64 f, .int .i64 6, .int .i64 r, .int .i64 u] 24)
  have hd0 := hN5.cell 0
  have hd1 := hN5.cell 1
  have hd2 := hN5.cell 2
  have hd3 := hN5.cell 3
  have hN6 := hN5.alloc (.cells #[.int .i64 f, .int .i64 t, .int .i64 r, .int .i64 u] 24)
  have he0 := hN6.cell 0
  simp only [List.getElem?_cons_zero, List.getElem?_cons_succ] at hd0 hd1 hd2 hd3 he0
  have hY6 : Whole ((w4.alloc (.cells #[.int .i64 f, .int .i64 6, .int .i64 r, .int .i64 u] 24)).alloc (.cells #[.int .i64 f, .int .i64 f, .int .i64 r, .int .i64 u] 24)) (w4.heap.size + 1) 24 [.int .i64 f, .int .i64 f, .int .i64 r, .int .i64 u] := by
    have h := Whole.new (w4.alloc (.cells #[.int .i64 f, .int .i64 6, .int .i64 r, .int .i64 u] 24)) 24 [.int .i64 f, .int .i64 f, .int .i64 r, .int .i64 u]
    simpa using h
  have hB6 : Below w.heap.size w ((w4.alloc (.cells #[.int .i64 f, .int .i64 6, .int .i64 r, .int .i64 u] 24)).alloc (.cells #[.int .i64 f, .int .i64 f, .int .i64 r, .int .i64 u] 24)) := (hB4.alloc hB4.size _).alloc (by have := hB4.size; simp; omega) _
  have hff : nvB f f r u = false := by simp [nvB]
  clear hN5 hN6
  by_cases hv : nvB f t r u = true
  · have h66 : nvB f 6 r u = true := by simp [nvB] at hv ⊢; omega
    rw [hv] at hsame ⊢
    clear hv
    go_wp2_with fail
    generalize (w4.alloc (.cells #[.int .i64 f, .int .i64 6, .int .i64 r, .int .i64 u] 24)).alloc (.cells #[.int .i64 f, .int .i64 f, .int .i64 r, .int .i64 u] 24) = w6 at hY6 hB6 ⊢
    obtain ⟨Y, HY⟩ : ∃ Y, Hid (Y = w4.heap.size + 1) := ⟨_, rfl⟩
    rw [← HY.out] at hY6 ⊢
    refine (needValid_any f 6 r u w6).mono ?_; rintro e w7 ⟨rfl, hb7⟩
    rw [h66]
    have hY7 := hY6.below hb7
    have hB7 := below_next hB6 hb7
    have hc0 := hY7.cell 0
    have hc1 := hY7.cell 1
    have hc2 := hY7.cell 2
    have hc3 := hY7.cell 3
    simp only [List.getElem?_cons_zero, List.getElem?_cons_succ] at hc0 hc1 hc2 hc3
    clear hY6 hB6 hb7
    go_wp2_with fail
    refine (needValid_any f f r u w7).mono ?_; rintro e w8 ⟨rfl, hb8⟩
    rw [hff]
    have hB8 := below_next hB7 hb8
    clear hB7 hb8
    go_wp2_with fail
    refine (alive_any w8).mono ?_; rintro e w9 ⟨rfl, hb9⟩
    have hB9 := below_next hB8 hb9
    go_wp2
    go_ret
    exact ⟨rfl, hB9⟩
  · replace hv : nvB f t r u = false := by simpa using hv
    rw [hv] at hsame ⊢
    clear hv
    go_wp2_with fail
    generalize (w4.alloc (.cells #[.int .i64 f, .int .i64 6, .int .i64 r, .int .i64 u] 24)).alloc (.cells #[.int .i64 f, .int .i64 f, .int .i64 r, .int .i64 u] 24) = w6 at hY6 hB6 ⊢
    refine (needValid_any f f r u w6).mono ?_; rintro e w8 ⟨rfl, hb8⟩
    rw [hff]
    have hB8 := below_next hB6 hb8
    clear hB6 hb8
    go_wp2_with fail
    refine (alive_any w8).mono ?_; rintro e w9 ⟨rfl, hb9⟩
    have hB9 := below_next hB8 hb9
    go_wp2
    go_ret
    exact ⟨rfl, hB9⟩
end Go.Proofs.YtobkljhbmeglpaaDoor
