/-
  DrawStoreRun of the reference: some hall and some cars.
-/
import Derived.Test.YtdebjcempkgeaaaDoorDrCrowd
namespace Go.Proofs.YtdebjcempkgeaaaDoor
open Go.ChangeShapes Go.WideShapes Go.ChangeAt Go.RowKit

theorem own_belowB {w w' : World} {base g n c sz B : Nat} {e : TypeId} {vs : List Value} (h : w.ownsRow base e sz (.slice (some ⟨g, 0, none⟩) n c) n vs) (hb : Below B w w') (hg : g < B) : w'.ownsRow base e sz (.slice (some ⟨g, 0, none⟩) n c) n vs := by
  refine ⟨h.1, ?_⟩
  rcases h.2 with ⟨hv, _⟩ | ⟨g', cap, cur, hv, hg', hcur, h1⟩
  · cases hv
  injection hv with e1 _ e2; injection e1 with e1; injection e1 with e1; subst e1; subst e2
  exact .inr ⟨g, c, cur, rfl, hg', (hb.block g hg).trans hcur, h1⟩
/-- The call answers some hall and some numbers, lists that it has made itself. -/
def DrawSR (w : World) (e : Ending) (w' : World) : Prop :=
  ∃ (wd dp : Int) (G m d : Nat) (g : List Int) (I l lc : Nat) (ids : List Int), e = .returned (.tuple #[.agg #[.int .i64 wd, .int .i64 dp, .slice (some ⟨G, 0, none⟩) m d], .slice (some ⟨I, 0, none⟩) l lc]) ∧ w'.ownsRow w.heap.size 3 1 (.slice (some ⟨G, 0, none⟩) m d) m (g.map (Value.int .i64)) ∧ 4 ≤ m ∧ m ≤ 13 ∧ w'.ownsRow w.heap.size 3 1 (.slice (some ⟨I, 0, none⟩) l lc) l (ids.map (Value.int .i64)) ∧ l ≤ 5 ∧ Below w.heap.size w w'

set_option maxRecDepth 100000 in
set_option maxHeartbeats 8000000 in
theorem drawStoreRun_any (w : World) (A : Option Addr) (n c : Nat) (bs : List Int) (hn : n ≤ c ∧ c ≤ 9223372036854775807) (hb : BytesAt w A n bs) :
    Calls Tryd.prog 4 #[.slice A n c] w (DrawSR w) := by
  have hbA : Below w.heap.size w (w.alloc (.cells #[.int .i64 0, .int .i64 0, .slice none 0 0] 25)) := (Below.refl _ _).alloc (Nat.le_refl _) _
  have hQ1 : Whole (w.alloc (.cells #[.int .i64 0, .int .i64 0, .slice none 0 0] 25)) w.heap.size 25 [.int .i64 0, .int .i64 0, .slice none 0 0] := Whole.new w _ _
  have hb1 : BytesAt (w.alloc (.cells #[.int .i64 0, .int .i64 0, .slice none 0 0] 25)) A n bs := hb.below hbA
  obtain ⟨Q, HQ⟩ : ∃ Q, Hid (Q = w.heap.size) := ⟨_, rfl⟩
  have hwQ : w.heap.size ≤ Q := Nat.le_of_eq HQ.out.symm
  have hbs : ∀ w : World, (Instr.buildSlice 23 0 #[]).run Tryd.prog w = .ok (.slice (some ⟨w.heap.size, 0, none⟩) 0 0) (w.alloc (.cells #[] 3)) := fun _ => by kernel_rfl
  clear hb
  go_enter Tryd.func4, Tryd.ntmps4
  go_wp2_with fail
  rw [← HQ.out] at hQ1 ⊢
  generalize w.alloc (.cells #[.int .i64 0, .int .i64 0, .slice none 0 0] 25) = w1 at *
  refine (open_any w1 A n c bs hn hb1).mono ?_; rintro e w2 ⟨R, A1, n1, c1, bs1, rfl, hR2⟩
  have hQ2 := hQ1.below hR2.bw
  have hQ1l := hQ1.lt
  have hRQ : Q < R := by have := hR2.bR; omega
  have hs2 := hR2.bw.size
  clear hQ1 hb1
  go_wp2_with fail
  refine (l20Crowd_any w1 w2 R A1 n1 c1 bs1 0 9 hR2 (by omega) (by omega) (by omega)).mono ?_; rintro e w3 ⟨wd, dp, G, m, d, g, z, rfl, hO3, hm4, hm13, hR3, hf3⟩
  have hRl2 := hR2.lt
  have hQ3 := hQ2.fr1 hf3 (by omega)
  have hs3 := hf3.size
  have hG3 := hO3.lt G rfl
  have hb4 : Below w3.heap.size w3 (w3.alloc (.cells #[.int .i64 wd, .int .i64 dp, .slice (some ⟨G, 0, none⟩) m d] 25)) := (Below.refl _ _).alloc (Nat.le_refl _) _
  have hM4 := Whole.new w3 25 [.int .i64 wd, .int .i64 dp, .slice (some ⟨G, 0, none⟩) m d]
  have hQ4 := hQ3.below hb4
  have hO4 := Joins.ownsRow_le (own_keep hO3 hb4) (base' := w2.heap.size) (Nat.le_refl _)
  have hR4 := hR3.below hb4
  have hs4 := hb4.size
  obtain ⟨M, HM⟩ : ∃ M, Hid (M = w3.heap.size) := ⟨_, rfl⟩
  have hGM : G < M := by rw [HM.out]; exact hG3.2
  have hQM : Q < M := by rw [HM.out]; exact hQ3.lt
  have hRM : R < M := by rw [HM.out]; exact hR3.lt
  rw [← HM.out] at hM4
  have hGQ : G ≠ Q := by omega
  clear hR2 hQ2 hO3 hR3 hf3 hQ3 hb4 hs3 hG3
  go_wp2_with fail
  rw [← HM.out]
  have HW4 : Hid ((w3.alloc (.cells #[.int .i64 wd, .int .i64 dp, .slice (some ⟨G, 0, none⟩) m d] 25)).heap.size = M + 1) := Lib.hid (by rw [HM.out]; simp)
  clear HM
  generalize w3.alloc (.cells #[.int .i64 wd, .int .i64 dp, .slice (some ⟨G, 0, none⟩) m d] 25) = w4 at *
  obtain ⟨B, HB⟩ : ∃ B, Hid (B = M + 1) := ⟨_, rfl⟩
  have hMB : M < B := by rw [HB.out]; omega
  have hI5 := own0 (base := B) (w1 := w4) (by rw [HB.out, HW4.out]; exact Nat.le_refl _)
  rw [HW4.out] at hI5
  have hb5 : Below w4.heap.size w4 (w4.alloc (.cells #[] 3)) := (Below.refl _ _).alloc (Nat.le_refl _) _
  have hR5 := hR4.below hb5
  have hQ5 := hQ4.below hb5
  have hM5 := hM4.below hb5
  have hO5 := own_keep hO4 hb5
  have hB5 : B ≤ (w4.alloc (.cells #[] 3)).heap.size := by rw [HB.out, ← HW4.out]; exact hb5.size
  clear hR4 hQ4 hM4 hO4 hb5
  rw [← HB.out] at hI5 ⊢
  generalize w4.alloc (.cells #[] 3) = w5 at *
  refine (pick_any w1 w5 R A1 n1 c1 bs1 _ 6 hR5 (by omega)).mono ?_; rintro e w6 ⟨t, rfl, ht0, ht1, -, hR6, hf6⟩
  replace ht1 := ht1 (by omega)
  obtain ⟨t, rfl⟩ : ∃ t' : Nat, t = t' := ⟨t.toNat, by omega⟩
  have hQ6 := hQ5.fr1 hf6 (by omega)
  have hM6 := hM5.fr1 hf6 (by omega)
  have hO6 := Lib.hid (ownsRow_fr1 hO5 hf6 hRl2)
  have hI6 := ownsRow_fr1 hI5 hf6 (by omega)
  have hB6 : B ≤ w6.heap.size := Nat.le_trans hB5 hf6.size
  clear hR5 hQ5 hM5 hO5 hI5 hf6 hB5 hbs
  go_wp2
  go_loopw [7, 8] (fun v i wr => ∃ (k l lc I : Nat) (ids : List Int), k ≤ t ∧ i = .int .i64 k ∧ v = .slice (some ⟨I, 0, none⟩) l lc ∧ l + k ≤ 5 ∧ Hid (wr.ownsRow B 3 1 (.slice (some ⟨I, 0, none⟩) l lc) l (ids.map (Value.int .i64))) ∧ Rd w1 wr R A1 n1 c1 bs1 (201 + (t - k)) ∧ Whole wr Q 25 [.int .i64 0, .int .i64 0, .slice none 0 0] ∧ Whole wr M 25 [.int .i64 wd, .int .i64 dp, .slice (some ⟨G, 0, none⟩) m d] ∧ Hid (wr.ownsRow w2.heap.size 3 1 (.slice (some ⟨G, 0, none⟩) m d) m (g.map (Value.int .i64))) ∧ B ≤ wr.heap.size) (fun _ i _ => (intOf i).toNat)
  case atStart => exact ⟨t, 0, 0, B, [], Nat.le_refl _, rfl, rfl, by omega, Lib.hid hI6, hR6.more (by omega), hQ6, hM6, hO6, hB6⟩
  case round =>
    obtain ⟨k, l, lc, I, ids, hk, rfl, rfl, hl5, HI, hR, hQ, hM, HO, hB⟩ := hrel
    clear hI6 hR6 hQ6 hM6 hO6 hB6
    by_cases hlt : 0 < k
    · go_wp2_with fail
      refine (pick_any w1 wr R A1 n1 c1 bs1 _ 12 hR (by omega)).mono ?_; rintro e w7 ⟨x, rfl, hx0, hx1, -, hR7, hf7⟩
      replace hx1 := hx1 (by omega)
      have hQ7 := hQ.fr1 hf7 (by omega)
      have hM7 := hM.fr1 hf7 (by omega)
      have hO7 := Lib.hid (ownsRow_fr1 HO.out hf7 hRl2)
      have hI7 := ownsRow_fr1 HI.out hf7 (by omega)
      have hB7 : B ≤ w7.heap.size := Nat.le_trans hB hf7.size
      clear hR hQ hM HO HI hB hf7
      go_wp2_with (at_builtin; (refine wpList_more (base := B) rfl (.tmp 23) (.tmp 27) rfl hB7 hI7 (50 + x) rfl rfl (by omega) ?_; intro g' c' w8 hO8 hb8))
      go_roundw
      case rel => exact ⟨k - 1, l + 1, c', g', ids ++ [50 + x], by omega, by go_num, rfl, by omega, Lib.hid hO8, (hR7.belowB hb8 (by omega)).more (by omega), hQ7.belowN hb8 (by omega), hM7.belowN hb8 (by omega), Lib.hid (own_belowB hO7.out hb8 (by omega)), by have := hb8.size; omega⟩
      case measure => simp [intOf]; omega
    · obtain rfl : k = 0 := by omega
      have m0 := hM.cell 0
      have m1 := hM.cell 1
      have m2 := hM.cell 2
      have q0 := hQ.cell 0
      have q1 := hQ.cell 1
      have q2 := hQ.cell 2
      have z0 := hQ.free 0
      have z1 := hQ.free 1
      have z2 := hQ.free 2
      simp only [List.getElem?_cons_zero, List.getElem?_cons_succ] at m0 m1 m2 q0 q1 q2
      have hQz := ((hQ.set_ 0 (.int .i64 wd)).set_ 1 (.int .i64 dp)).set_ 2 (.slice (some ⟨G, 0, none⟩) m d)
      have hOz := Lib.hid (own_off (own_off (own_off HO.out (p := ⟨Q, 0, none⟩) hGQ (.int .i64 wd)) (p := ⟨Q, 1, none⟩) hGQ (.int .i64 dp)) (p := ⟨Q, 2, none⟩) hGQ (.slice (some ⟨G, 0, none⟩) m d))
      have hIQ : I ≠ Q := by have := (HI.out.lt I rfl).1; omega
      have hIz := Lib.hid (own_off (own_off (own_off HI.out (p := ⟨Q, 0, none⟩) hIQ (.int .i64 wd)) (p := ⟨Q, 1, none⟩) hIQ (.int .i64 dp)) (p := ⟨Q, 2, none⟩) hIQ (.slice (some ⟨G, 0, none⟩) m d))
      have hBz := Lib.hid ((((hbA.trans (hR.bw.mono hbA.size)).setCell (p := ⟨Q, 0, none⟩) hwQ (.int .i64 wd)).setCell (p := ⟨Q, 1, none⟩) hwQ (.int .i64 dp)).setCell (p := ⟨Q, 2, none⟩) hwQ (.slice (some ⟨G, 0, none⟩) m d))
      have hwB : w.heap.size ≤ w2.heap.size := by have := hbA.size; omega
      go_wp2
      generalize ((wr.setCell ⟨Q, 0, none⟩ (.int .i64 wd)).setCell ⟨Q, 1, none⟩ (.int .i64 dp)).setCell ⟨Q, 2, none⟩ (.slice (some ⟨G, 0, none⟩) m d) = wz at *
      have e0 : wz.cell? ⟨Q, 0, none⟩ = some (.int .i64 wd) := hQz.cell 0
      have e1 : wz.cell? ⟨Q, 1, none⟩ = some (.int .i64 dp) := hQz.cell 1
      have e2 : wz.cell? ⟨Q, 2, none⟩ = some (.slice (some ⟨G, 0, none⟩) m d) := hQz.cell 2
      exact bodyPost_ret (v := .tuple #[.agg #[.int .i64 wd, .int .i64 dp, .slice (some ⟨G, 0, none⟩) m d], .slice (some ⟨I, 0, none⟩) l lc]) (by simp [results, Tryd.results4, go_sem, e0, e1, e2]) rfl ⟨wd, dp, G, m, d, g, I, l, lc, ids, rfl, Joins.ownsRow_le hOz.out hwB, hm4, hm13, Joins.ownsRow_le hIz.out (by omega), by omega, hBz.out⟩
end Go.Proofs.YtdebjcempkgeaaaDoor
