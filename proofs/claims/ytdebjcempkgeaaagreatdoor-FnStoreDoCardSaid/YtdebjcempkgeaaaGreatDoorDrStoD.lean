/-
  DrawStoreDo of the reference: some hall and some car.
-/
import Derived.Test.YtdebjcempkgeaaaGreatDoorDrCrowd
namespace Go.Proofs.YtdebjcempkgeaaaGreatDoor
open Go.ChangeShapes Go.WideShapes Go.ChangeAt Go.RowKit

/-- The call answers some hall and some number. -/
def DrawSD (w : World) (e : Ending) (w' : World) : Prop :=
  ∃ (wd dp : Int) (G m d : Nat) (g : List Int) (z : Int), e = .returned (.tuple #[.agg #[.int .i64 wd, .int .i64 dp, .slice (some ⟨G, 0, none⟩) m d], .int .i64 z]) ∧ w'.ownsRow w.heap.size 3 1 (.slice (some ⟨G, 0, none⟩) m d) m (g.map (Value.int .i64)) ∧ 4 ≤ m ∧ m ≤ 13 ∧ Below w.heap.size w w'

set_option maxRecDepth 100000 in
set_option maxHeartbeats 8000000 in
theorem drawStoreDo_any (w : World) (A : Option Addr) (n c : Nat) (bs : List Int) (hn : n ≤ c ∧ c ≤ 9223372036854775807) (hb : BytesAt w A n bs) :
    Calls Tryz.prog 4 #[.slice A n c] w (DrawSD w) := by
  have hbA : Below w.heap.size w (w.alloc (.cells #[.int .i64 0, .int .i64 0, .slice none 0 0] 25)) := (Below.refl _ _).alloc (Nat.le_refl _) _
  have hQ1 : Whole (w.alloc (.cells #[.int .i64 0, .int .i64 0, .slice none 0 0] 25)) w.heap.size 25 [.int .i64 0, .int .i64 0, .slice none 0 0] := Whole.new w _ _
  have hb1 : BytesAt (w.alloc (.cells #[.int .i64 0, .int .i64 0, .slice none 0 0] 25)) A n bs := hb.below hbA
  obtain ⟨Q, HQ⟩ : ∃ Q, Hid (Q = w.heap.size) := ⟨_, rfl⟩
  have hwQ : w.heap.size ≤ Q := Nat.le_of_eq HQ.out.symm
  clear hb
  go_enter Tryz.func4, Tryz.ntmps4
  go_wp2_with fail
  rw [← HQ.out] at hQ1 ⊢
  generalize w.alloc (.cells #[.int .i64 0, .int .i64 0, .slice none 0 0] 25) = w1 at *
  refine (open_any w1 A n c bs hn hb1).mono ?_; rintro e w2 ⟨R, A1, n1, c1, bs1, rfl, hR2⟩
  have hQ2 := hQ1.below hR2.bw
  have hQ1l := hQ1.lt
  have hRQ : Q < R := by have := hR2.bR; omega
  have hs2 := hR2.bw.size
  clear hQ1 hb1
  go_wp2_with fail
  refine (l20Crowd_any w1 w2 R A1 n1 c1 bs1 0 9 hR2 (by omega) (by omega) (by omega)).mono ?_; rintro e w3 ⟨wd, dp, G, m, d, g, z, rfl, hO3, hm4, hm13, hR3, hf3⟩
  have hRl2 := hR2.lt
  have hQ3 := hQ2.fr1 hf3 (by omega)
  have hs3 := hf3.size
  have hG3 := hO3.lt G rfl
  have hb4 : Below w3.heap.size w3 (w3.alloc (.cells #[.int .i64 wd, .int .i64 dp, .slice (some ⟨G, 0, none⟩) m d] 25)) := (Below.refl _ _).alloc (Nat.le_refl _) _
  have hM4 := Whole.new w3 25 [.int .i64 wd, .int .i64 dp, .slice (some ⟨G, 0, none⟩) m d]
  have hQ4 := hQ3.below hb4
  have hO4 := Joins.ownsRow_le (own_keep hO3 hb4) (base' := w2.heap.size) (Nat.le_refl _)
  have hR4 := hR3.below hb4
  have hs4 := hb4.size
  obtain ⟨M, HM⟩ : ∃ M, Hid (M = w3.heap.size) := ⟨_, rfl⟩
  have hGM : G < M := by rw [HM.out]; exact hG3.2
  have hQM : Q < M := by rw [HM.out]; exact hQ3.lt
  have hRM : R < M := by rw [HM.out]; exact hR3.lt
  rw [← HM.out] at hM4
  have hGQ : G ≠ Q := by omega
  clear hR2 hQ2 hO3 hR3 hf3 hQ3 hb4 hs3 hG3
  go_wp2_with fail
  rw [← HM.out]
  clear HM
  generalize w3.alloc (.cells #[.int .i64 wd, .int .i64 dp, .slice (some ⟨G, 0, none⟩) m d] 25) = w4 at *
  refine (pick_any w1 w4 R A1 n1 c1 bs1 _ 4 hR4 (by omega)).mono ?_; rintro e w6 ⟨t, rfl, ht0, ht1, -, hR6, hf6⟩
  replace ht1 := ht1 (by omega)
  have hQ6 := hQ4.fr1 hf6 (by omega)
  have hM6 := hM4.fr1 hf6 (by omega)
  have hO6 := Lib.hid (ownsRow_fr1 hO4 hf6 hRl2)
  have hwB : w.heap.size ≤ w2.heap.size := by have := hbA.size; omega
  clear hR4 hQ4 hM4 hO4 hf6
  by_cases ht : 0 < t
  · have hd : decide (0 < t) = true := by simpa using ht
    go_upto_region 4 with fail
    refine wp_region_held_drew (S := (fun w' => w'.cell? ⟨M, 0, none⟩ = some (.int .i64 wd) ∧ w'.cell? ⟨M, 1, none⟩ = some (.int .i64 dp) ∧ w'.cell? ⟨M, 2, none⟩ = some (.slice (some ⟨G, 0, none⟩) m d))) (by kernel_rfl) ?_ (fun hHeld => ?_)
    · (try dsimp only); first | exact ⟨hM6.cell 0, hM6.cell 1, hM6.cell 2⟩ | exact ⟨hMX.cell 0, hMX.cell 1, hMX.cell 2⟩
    refine wpAnyH_take (i := 0) (v := ?vq1_0_1) (by simp only [List.getElem?_toArray, List.getElem?_cons_zero]; rfl) (by kernel_rfl) (by kernel_rfl) (by kernel_rfl) (by exact fun _ _ _ h => h) (Or.inl ⟨by rfl, ?hq1_0_1⟩) hHeld ?rq1_0_1
    case hq1_0_1 => (intro w hSw; (try dsimp only at hSw); go_simp; (try with_reducible rfl))
    try simp only [put_laws]
    refine wpAnyH_take (i := 1) (v := ?vq1_1_2) (by simp only [List.getElem?_toArray, List.getElem?_cons_succ, List.getElem?_cons_zero]; rfl) (by kernel_rfl) (by kernel_rfl) (by kernel_rfl) (by exact fun _ _ _ h => h) (Or.inl ⟨by rfl, ?hq1_1_2⟩) hHeld ?rq1_1_2
    case hq1_1_2 => (intro w hSw; (try dsimp only at hSw); go_simp; (try with_reducible rfl))
    try simp only [put_laws]
    refine wpAnyH_ready (rs := [2]) (by kernel_rfl) (by simp) ?_
    refine AllReadyH.cons (by simp only [List.getElem?_toArray, List.getElem?_cons_succ, List.getElem?_cons_zero]; rfl) (fun K hK => ?_) AllReadyH.nil
    go_simp
    refine (pick_any w1 _ R A1 n1 c1 bs1 _ 10 (hR6.below (Below.refl _ _).drew) (by omega)).mono ?_; rintro e wp ⟨x, rfl, hx0, hx1, -, hRp, hfp⟩; replace hx1 := hx1 (by omega); replace hQ6 := hQ6.drew.fr1 hfp (by omega); replace hM6 := hM6.drew.fr1 hfp (by omega); replace hO6 := Lib.hid (ownsRow_fr1 (own_drewC hO6.out) hfp hRl2); have hadd : IntKind.i64.wrap (50 + x) = 50 + x := IntWalk.i64_in _ (by omega); clear hR6 hfp
    refine hK.out _ _ ?_ (fun hHeld => ?_)
    · (try dsimp only); first | exact ⟨hM6.cell 0, hM6.cell 1, hM6.cell 2⟩ | exact ⟨hMX.cell 0, hMX.cell 1, hMX.cell 2⟩
    clear hK K
    try simp only [put_laws]
    refine wpAnyH_take (i := 3) (v := ?vq1_3_4) (by simp only [List.getElem?_toArray, List.getElem?_cons_succ, List.getElem?_cons_zero]; rfl) (by kernel_rfl) (by kernel_rfl) (by kernel_rfl) (by exact fun _ _ _ h => h) (Or.inl ⟨by rfl, ?hq1_3_4⟩) hHeld ?rq1_3_4
    case hq1_3_4 => (intro w hSw; (try dsimp only at hSw); go_simp; (try with_reducible rfl))
    try simp only [put_laws]
    have q0 := hQ6.cell 0; have q1 := hQ6.cell 1; have q2 := hQ6.cell 2; have z0 := hQ6.free 0; have z1 := hQ6.free 1; have z2 := hQ6.free 2; simp only [List.getElem?_cons_zero, List.getElem?_cons_succ] at q0 q1 q2; have hMX := ((hM6.far (p := ⟨Q, 0, none⟩) (by show M ≠ Q; omega) (.int .i64 wd)).far (p := ⟨Q, 1, none⟩) (by show M ≠ Q; omega) (.int .i64 dp)).far (p := ⟨Q, 2, none⟩) (by show M ≠ Q; omega) (.slice (some ⟨G, 0, none⟩) m d)
    refine wpAnyH_ready (rs := [4]) (by kernel_rfl) (by simp) ?_
    refine AllReadyH.cons (by simp only [List.getElem?_toArray, List.getElem?_cons_succ, List.getElem?_cons_zero]; rfl) (fun K hK => ?_) AllReadyH.nil
    go_simp
    skip
    refine hK.out _ _ ?_ (fun hHeld => ?_)
    · (try dsimp only); first | exact ⟨hM6.cell 0, hM6.cell 1, hM6.cell 2⟩ | exact ⟨hMX.cell 0, hMX.cell 1, hMX.cell 2⟩
    clear hK K
    try simp only [put_laws]
    refine wpAnyH_take (i := 5) (v := ?vq1_5_6) (by simp only [List.getElem?_toArray, List.getElem?_cons_succ, List.getElem?_cons_zero]; rfl) (by kernel_rfl) (by kernel_rfl) (by kernel_rfl) (by exact fun _ _ _ h => h) (Or.inl ⟨by rfl, ?hq1_5_6⟩) hHeld ?rq1_5_6
    case hq1_5_6 => (intro w hSw; (try dsimp only at hSw); go_simp; (try with_reducible rfl))
    try simp only [put_laws]
    refine wpAnyH_done (by kernel_rfl) ?_ _
    have hQz := ((hQ6.set_ 0 (.int .i64 wd)).set_ 1 (.int .i64 dp)).set_ 2 (.slice (some ⟨G, 0, none⟩) m d)
    have hOz := Lib.hid (own_off (own_off (own_off hO6.out (p := ⟨Q, 0, none⟩) hGQ (.int .i64 wd)) (p := ⟨Q, 1, none⟩) hGQ (.int .i64 dp)) (p := ⟨Q, 2, none⟩) hGQ (.slice (some ⟨G, 0, none⟩) m d))
    have hBz := Lib.hid ((((hbA.trans (hRp.bw.mono hbA.size)).setCell (p := ⟨Q, 0, none⟩) hwQ (.int .i64 wd)).setCell (p := ⟨Q, 1, none⟩) hwQ (.int .i64 dp)).setCell (p := ⟨Q, 2, none⟩) hwQ (.slice (some ⟨G, 0, none⟩) m d))
    clear hMX hHeld hM6
    go_wp2
    generalize ((wp.setCell ⟨Q, 0, none⟩ (.int .i64 wd)).setCell ⟨Q, 1, none⟩ (.int .i64 dp)).setCell ⟨Q, 2, none⟩ (.slice (some ⟨G, 0, none⟩) m d) = wz at *
    have e0 : wz.cell? ⟨Q, 0, none⟩ = some (.int .i64 wd) := hQz.cell 0
    have e1 : wz.cell? ⟨Q, 1, none⟩ = some (.int .i64 dp) := hQz.cell 1
    have e2 : wz.cell? ⟨Q, 2, none⟩ = some (.slice (some ⟨G, 0, none⟩) m d) := hQz.cell 2
    exact bodyPost_ret (v := .tuple #[.agg #[.int .i64 wd, .int .i64 dp, .slice (some ⟨G, 0, none⟩) m d], .int .i64 (50 + x)]) (by simp [results, Tryz.results4, go_sem, e0, e1, e2]) rfl ⟨wd, dp, G, m, d, g, 50 + x, rfl, Joins.ownsRow_le hOz.out hwB, hm4, hm13, hBz.out⟩
  · have hd : decide (0 < t) = false := by simpa using ht
    clear ht
    have m0 := hM6.cell 0
    have m1 := hM6.cell 1
    have m2 := hM6.cell 2
    have q0 := hQ6.cell 0
    have q1 := hQ6.cell 1
    have q2 := hQ6.cell 2
    have z0 := hQ6.free 0
    have z1 := hQ6.free 1
    have z2 := hQ6.free 2
    simp only [List.getElem?_cons_zero, List.getElem?_cons_succ] at m0 m1 m2 q0 q1 q2
    have hQz := ((hQ6.set_ 0 (.int .i64 wd)).set_ 1 (.int .i64 dp)).set_ 2 (.slice (some ⟨G, 0, none⟩) m d)
    have hOz := Lib.hid (own_off (own_off (own_off hO6.out (p := ⟨Q, 0, none⟩) hGQ (.int .i64 wd)) (p := ⟨Q, 1, none⟩) hGQ (.int .i64 dp)) (p := ⟨Q, 2, none⟩) hGQ (.slice (some ⟨G, 0, none⟩) m d))
    have hBz := Lib.hid ((((hbA.trans (hR6.bw.mono hbA.size)).setCell (p := ⟨Q, 0, none⟩) hwQ (.int .i64 wd)).setCell (p := ⟨Q, 1, none⟩) hwQ (.int .i64 dp)).setCell (p := ⟨Q, 2, none⟩) hwQ (.slice (some ⟨G, 0, none⟩) m d))
    go_wp2
    generalize ((w6.setCell ⟨Q, 0, none⟩ (.int .i64 wd)).setCell ⟨Q, 1, none⟩ (.int .i64 dp)).setCell ⟨Q, 2, none⟩ (.slice (some ⟨G, 0, none⟩) m d) = wz at *
    have e0 : wz.cell? ⟨Q, 0, none⟩ = some (.int .i64 wd) := hQz.cell 0
    have e1 : wz.cell? ⟨Q, 1, none⟩ = some (.int .i64 dp) := hQz.cell 1
    have e2 : wz.cell? ⟨Q, 2, none⟩ = some (.slice (some ⟨G, 0, none⟩) m d) := hQz.cell 2
    exact bodyPost_ret (v := .tuple #[.agg #[.int .i64 wd, .int .i64 dp, .slice (some ⟨G, 0, none⟩) m d], .int .i64 z]) (by simp [results, Tryz.results4, go_sem, e0, e1, e2]) rfl ⟨wd, dp, G, m, d, g, z, rfl, Joins.ownsRow_le hOz.out hwB, hm4, hm13, hBz.out⟩
end Go.Proofs.YtdebjcempkgeaaaGreatDoor
