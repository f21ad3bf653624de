/-
  A need that the reference draws.
-/
import Derived.Test.YtobkljhbmeglpaaDoorRd
import Derived.Deep.RegionWith
namespace Go.Proofs.YtobkljhbmeglpaaDoor
open Go.ChangeShapes Go.WideShapes Go.ChangeAt Go.RowKit

theorem Rd.lt {w0 w : World} {R : Nat} {A : Option Addr} {n c : Nat} {bs : List Int} {K : Nat} (h : Rd w0 w R A n c bs K) : R < w.heap.size := by obtain ⟨p, _, h2⟩ := h.blk; exact h2.lt
theorem Rd.set {w0 w : World} {R : Nat} {A : Option Addr} {n c : Nat} {bs : List Int} {K : Nat} (h : Rd w0 w R A n c bs K) {p : Addr} (hp : R < p.block) (v : Value) : Rd w0 (w.setCell p v) R A n c bs K := by
  obtain ⟨q, h1, h2⟩ := h.blk
  exact ⟨⟨q, h1, h2.far (by omega) v⟩, h.bytes, h.small, h.bR, h.bw.setCell (by have := h.bR; omega) v⟩
theorem Fr1.far {R : Nat} {w w1 : World} (h : Fr1 R w w1) {p : Addr} (hp : w.heap.size ≤ p.block) (v : Value) : Fr1 R w (w1.setCell p v) :=
  ⟨by simp [World.setCell]; exact h.size, fun k hk h1 => (Below.heap_setCell w1 p v k (by omega)).trans (h.block k hk h1)⟩

/-- The call answers a struct of four numbers, whichever; the reader has gone on. -/
def Draw4 (w0 w : World) (R : Nat) (A : Option Addr) (n c : Nat) (bs : List Int) (K : Nat) (e : Ending) (w' : World) : Prop :=
  ∃ f t r u : Int, e = .returned (.agg #[.int .i64 f, .int .i64 t, .int .i64 r, .int .i64 u]) ∧ Rd w0 w' R A n c bs K ∧ Fr1 R w w'
set_option maxRecDepth 100000 in
set_option maxHeartbeats 4000000 in
theorem l20Need_any (w0 w : World) (R : Nat) (A : Option Addr) (n c : Nat) (bs : List Int) (J : Nat) (q : Int) (h : Rd w0 w R A n c bs J) (hJ : J ≤ 900000) (hq : 0 ≤ q) (hq2 : q ≤ 1000) :
    Calls Tryd.prog 47 #[.pointer (some ⟨R, 0, none⟩), .int .i64 q] w (Draw4 w0 w R A n c bs (J + 10)) := by
  have hRl := h.lt
  have hR1 := h.below ((Below.refl w.heap.size w).alloc (Nat.le_refl _) (.cells #[.int .i64 0, .int .i64 0, .int .i64 0, .int .i64 0] 24))
  have hQ1 : Whole (w.alloc (.cells #[.int .i64 0, .int .i64 0, .int .i64 0, .int .i64 0] 24)) w.heap.size 24 [.int .i64 0, .int .i64 0, .int .i64 0, .int .i64 0] := Whole.new w _ _
  have hF1 : Fr1 R w (w.alloc (.cells #[.int .i64 0, .int .i64 0, .int .i64 0, .int .i64 0] 24)) := (Fr1.refl R w).below ((Below.refl _ _).alloc (Nat.le_refl _) _)
  go_enter Tryd.func47, Tryd.ntmps47
  go_wp2_with fail
  generalize w.alloc (.cells #[.int .i64 0, .int .i64 0, .int .i64 0, .int .i64 0] 24) = w1 at hR1 hQ1 hF1 ⊢
  refine (pick_any w0 _ R A n c bs J 6 hR1 (by omega)).mono ?_; rintro e w2 ⟨a, rfl, ha0, ha1, -, hR2, hf2⟩
  go_wp2_with fail
  refine (pick_any w0 _ R A n c bs (J + 1) 6 hR2 (by omega)).mono ?_; rintro e w3 ⟨b, rfl, hb0, hb1, -, hR3, hf3⟩
  go_wp2_with fail
  refine (pick_any w0 _ R A n c bs (J + 1 + 1) 14 hR3 (by omega)).mono ?_; rintro e w4 ⟨d, rfl, hd0, hd1, -, hR4, hf4⟩
  replace ha1 := ha1 (by omega)
  replace hb1 := hb1 (by omega)
  replace hd1 := hd1 (by omega)
  go_wp2
  have hs1 := hF1.size
  have hs2 := hf2.size
  have hs3 := hf3.size
  have hs4 := hf4.size
  have hM5 : Whole (w4.alloc (.cells #[.int .i64 a, .int .i64 0, .int .i64 (1 + b), .int .i64 (1 + d)] 24)) w4.heap.size 24 [.int .i64 a, .int .i64 0, .int .i64 (1 + b), .int .i64 (1 + d)] := Whole.new w4 _ _
  have hb5 : Below w4.heap.size w4 (w4.alloc (.cells #[.int .i64 a, .int .i64 0, .int .i64 (1 + b), .int .i64 (1 + d)] 24)) := (Below.refl _ _).alloc (Nat.le_refl _) _
  generalize w4.alloc (.cells #[.int .i64 a, .int .i64 0, .int .i64 (1 + b), .int .i64 (1 + d)] 24) = w5 at hM5 hb5 ⊢
  have hR5 := hR4.below hb5
  have hQ5 := (((hQ1.fr1 hf2 (by omega)).fr1 hf3 (by omega)).fr1 hf4 (by omega)).below hb5
  have hF5 := (((hF1.trans hf2).trans hf3).trans hf4).below hb5
  obtain ⟨M, HM⟩ : ∃ M, Hid (M = w4.heap.size) := ⟨_, rfl⟩
  obtain ⟨Q, HQ⟩ : ∃ Q, Hid (Q = w.heap.size) := ⟨_, rfl⟩
  have hQl := hQ1.lt
  rw [← HM.out] at hM5 ⊢
  rw [← HQ.out] at hQ5 hRl hs1 hQl ⊢
  have hMR : M ≠ R := by have := HM.out; omega
  have hQR : Q ≠ R := by omega
  have hQM : Q ≠ M := by have := HM.out; omega
  have hMQ : M ≠ Q := by have := HM.out; omega
  have hRM : R < M := by have := HM.out; omega
  have hQw : w.heap.size ≤ Q := by have := HQ.out; omega
  have hMw : w.heap.size ≤ M := by have := HM.out; have := HQ.out; omega
  clear hQ1 hF1 hR1 hR2 hR3 hR4 hf2 hf3 hf4 hs1 hs2 hs3 hs4 hb5 h hQl
  refine wp_region_held_drew (S := (fun w' => w'.cell? ⟨M, 0, none⟩ = some (.int .i64 a))) (by kernel_rfl) ?_ (fun hHeld => ?_)
  · (try dsimp only); (first | exact hM5.cell 0 | exact g0 | exact (hM6.set_ 1 _).cell 0)
  refine wpAnyH_take (i := 0) (v := ?vq1_0) (by simp only [List.getElem?_toArray, List.getElem?_cons_zero]; rfl) (by kernel_rfl) (by kernel_rfl) (by kernel_rfl) (by exact fun _ _ _ h => h) (Or.inl ⟨by rfl, ?hq1_0⟩) hHeld ?rq1_0
  case hq1_0 => (intro w hSw; (try dsimp only at hSw); go_simp; (try with_reducible rfl))
  try simp only [put_laws]
  refine wpAnyH_take (i := 1) (v := ?vq1_1) (by simp only [List.getElem?_toArray, List.getElem?_cons_succ, List.getElem?_cons_zero]; rfl) (by kernel_rfl) (by kernel_rfl) (by kernel_rfl) (by exact fun _ _ _ h => h) (Or.inl ⟨by rfl, ?hq1_1⟩) hHeld ?rq1_1
  case hq1_1 => (intro w hSw; (try dsimp only at hSw); go_simp; (try with_reducible rfl))
  try simp only [put_laws]
  refine wpAnyH_take (i := 2) (v := ?vq1_2) (by simp only [List.getElem?_toArray, List.getElem?_cons_succ, List.getElem?_cons_zero]; rfl) (by kernel_rfl) (by kernel_rfl) (by kernel_rfl) (by exact fun _ _ _ h => h) (Or.inl ⟨by rfl, ?hq1_2⟩) hHeld ?rq1_2
  case hq1_2 => (intro w hSw; (try dsimp only at hSw); go_simp; (try with_reducible rfl))
  try simp only [put_laws]
  refine wpAnyH_take (i := 3) (v := ?vq1_3) (by simp only [List.getElem?_toArray, List.getElem?_cons_succ, List.getElem?_cons_zero]; rfl) (by kernel_rfl) (by kernel_rfl) (by kernel_rfl) (by exact fun _ _ _ h => h) (Or.inl ⟨by rfl, ?hq1_3⟩) hHeld ?rq1_3
  case hq1_3 => (intro w hSw; (try dsimp only at hSw); go_simp; (try with_reducible rfl))
  try simp only [put_laws]
  refine wpAnyH_take (i := 4) (v := ?vq1_4) (by simp only [List.getElem?_toArray, List.getElem?_cons_succ, List.getElem?_cons_zero]; rfl) (by kernel_rfl) (by kernel_rfl) (by kernel_rfl) (by exact fun _ _ _ h => h) (Or.inl ⟨by rfl, ?hq1_4⟩) hHeld ?rq1_4
  case hq1_4 => (intro w hSw; (try dsimp only at hSw); go_simp; (try with_reducible rfl))
  try simp only [put_laws]
  refine wpAnyH_take (i := 5) (v := ?vq1_5) (by simp only [List.getElem?_toArray, List.getElem?_cons_succ, List.getElem?_cons_zero]; rfl) (by kernel_rfl) (by kernel_rfl) (by kernel_rfl) (by exact fun _ _ _ h => h) (Or.inl ⟨by rfl, ?hq1_5⟩) hHeld ?rq1_5
  case hq1_5 => (intro w hSw; (try dsimp only at hSw); go_simp; (try with_reducible rfl))
  try simp only [put_laws]
  refine wpAnyH_take (i := 6) (v := ?vq1_6) (by simp only [List.getElem?_toArray, List.getElem?_cons_succ, List.getElem?_cons_zero]; rfl) (by kernel_rfl) (by kernel_rfl) (by kernel_rfl) (by exact fun _ _ _ h => h) (Or.inl ⟨by rfl, ?hq1_6⟩) hHeld ?rq1_6
  case hq1_6 => (intro w hSw; (try dsimp only at hSw); go_simp; (try with_reducible rfl))
  try simp only [put_laws]
  refine wpAnyH_ready (rs := [7]) (by kernel_rfl) (by simp) ?_
  refine AllReadyH.cons (by simp only [List.getElem?_toArray, List.getElem?_cons_succ, List.getElem?_cons_zero]; rfl) (fun K hK => ?_) AllReadyH.nil
  go_simp
  (refine (pick_any w0 _ R A n c bs (J + 3) _ (hR5.below (Below.refl _ _).drew) (by omega)).mono ?_; rintro e w6 ⟨v6, rfl, hv60, hv61, -, hR6, hf6⟩; rw [IntWalk.i64_in (6 - a) (by omega)] at hv61; replace hv61 := hv61 (by omega); have hM6 := (Whole.drew hM5).fr1 hf6 hMR; have g0 : w6.cell? ⟨M, 0, none⟩ = some (.int .i64 a) := hM6.cell 0; have g1 : w6.cell? ⟨M, 1, none⟩ = some (.int .i64 0) := hM6.cell 1; have gz := hM6.free 1)
  refine hK.out _ _ ?_ (fun hHeld => ?_)
  · (try dsimp only); (first | exact hM5.cell 0 | exact g0 | exact (hM6.set_ 1 _).cell 0)
  clear hK K
  try simp only [put_laws]
  refine wpAnyH_take (i := 8) (v := ?vq1_8) (by simp only [List.getElem?_toArray, List.getElem?_cons_succ, List.getElem?_cons_zero]; rfl) (by kernel_rfl) (by kernel_rfl) (by kernel_rfl) (by exact fun _ _ _ h => h) (Or.inl ⟨by rfl, ?hq1_8⟩) hHeld ?rq1_8
  case hq1_8 => (intro w hSw; (try dsimp only at hSw); go_simp; (try with_reducible rfl))
  try simp only [put_laws]
  refine wpAnyH_take (i := 9) (v := ?vq1_9) (by simp only [List.getElem?_toArray, List.getElem?_cons_succ, List.getElem?_cons_zero]; rfl) (by kernel_rfl) (by kernel_rfl) (by kernel_rfl) (by exact fun _ _ _ h => h) (Or.inl ⟨by rfl, ?hq1_9⟩) hHeld ?rq1_9
  case hq1_9 => (intro w hSw; (try dsimp only at hSw); go_simp; (try with_reducible rfl))
  try simp only [put_laws]
  refine wpAnyH_ready (rs := [10]) (by kernel_rfl) (by simp) ?_
  refine AllReadyH.cons (by simp only [List.getElem?_toArray, List.getElem?_cons_succ, List.getElem?_cons_zero]; rfl) (fun K hK => ?_) AllReadyH.nil
  go_simp
  skip
  refine hK.out _ _ ?_ (fun hHeld => ?_)
  · (try dsimp only); (first | exact hM5.cell 0 | exact g0 | exact (hM6.set_ 1 _).cell 0)
  clear hK K
  try simp only [put_laws]
  refine wpAnyH_done (by kernel_rfl) ?_ _
  clear hHeld g0 g1 gz
  have hM7 := hM6.set_ 1 (.int .i64 (a + 1 + v6))
  have hR7 := hR6.set (p := ⟨M, 1, none⟩) hRM (.int .i64 (a + 1 + v6))
  have hF7 := ((hF5.below (Below.refl _ _).drew).trans hf6).far (p := ⟨M, 1, none⟩) hMw (.int .i64 (a + 1 + v6))
  have hQ7 := ((Whole.drew hQ5).fr1 hf6 hQR).far (p := ⟨M, 1, none⟩) hQM (.int .i64 (a + 1 + v6))
  have hx7 : IntKind.i64.wrap (a + 1 + v6) = a + 1 + v6 := IntWalk.i64_in _ (by omega)
  clear hR5 hR6 hM5 hM6 hQ5 hF5 hf6
  go_wp2_with fail
  generalize w6.setCell ⟨M, 1, none⟩ (.int .i64 (a + 1 + v6)) = w7 at hM7 hR7 hF7 hQ7 ⊢
  refine (odd_any w0 _ R A n c bs (J + 4) q hR7 (by omega) (by omega) hq).mono ?_; rintro e w8 ⟨v8, rfl, -, hR8, hf8⟩
  have hM8 := hM7.fr1 hf8 hMR
  have hQ8 := hQ7.fr1 hf8 hQR
  have hF8 := hF7.trans hf8
  clear hM7 hR7 hF7 hQ7 hf8 hx7
  have fin : ∀ (wz : World) (z0 z1 z2 z3 : Int), Whole wz M 24 [.int .i64 z0, .int .i64 z1, .int .i64 z2, .int .i64 z3] → Whole wz Q 24 [.int .i64 0, .int .i64 0, .int .i64 0, .int .i64 0] → Rd w0 wz R A n c bs (J + 10) → Fr1 R w wz →
      Draw4 w0 w R A n c bs (J + 10) (.returned (.agg #[.int .i64 z0, .int .i64 z1, .int .i64 z2, .int .i64 z3])) ((((wz.setCell ⟨Q, 0, none⟩ (.int .i64 z0)).setCell ⟨Q, 1, none⟩ (.int .i64 z1)).setCell ⟨Q, 2, none⟩ (.int .i64 z2)).setCell ⟨Q, 3, none⟩ (.int .i64 z3)) :=
    fun wz z0 z1 z2 z3 _ _ hR hF => ⟨z0, z1, z2, z3, rfl, (((hR.set (p := ⟨Q, 0, none⟩) hRl _).set (p := ⟨Q, 1, none⟩) hRl _).set (p := ⟨Q, 2, none⟩) hRl _).set (p := ⟨Q, 3, none⟩) hRl _, (((hF.far (p := ⟨Q, 0, none⟩) hQw _).far (p := ⟨Q, 1, none⟩) hQw _).far (p := ⟨Q, 2, none⟩) hQw _).far (p := ⟨Q, 3, none⟩) hQw _⟩
  have HFin := Lib.hid fin
  clear fin
  have hs8 := hF8.size
  cases v8
  · have hm0 : w8.cell? ⟨M, 0, none⟩ = some (.int .i64 a) := hM8.cell 0
    have hm1 : w8.cell? ⟨M, 1, none⟩ = some (.int .i64 (a + 1 + v6)) := hM8.cell 1
    have hm2 : w8.cell? ⟨M, 2, none⟩ = some (.int .i64 (1 + b)) := hM8.cell 2
    have hm3 : w8.cell? ⟨M, 3, none⟩ = some (.int .i64 (1 + d)) := hM8.cell 3
    have hq0 : w8.cell? ⟨Q, 0, none⟩ = some (.int .i64 0) := hQ8.cell 0
    have hq1 : w8.cell? ⟨Q, 1, none⟩ = some (.int .i64 0) := hQ8.cell 1
    have hq2 : w8.cell? ⟨Q, 2, none⟩ = some (.int .i64 0) := hQ8.cell 2
    have hq3 : w8.cell? ⟨Q, 3, none⟩ = some (.int .i64 0) := hQ8.cell 3
    have hz0 := hQ8.free 0
    have hz1 := hQ8.free 1
    have hz2 := hQ8.free 2
    have hz3 := hQ8.free 3
    go_wp2
    have hW := (((hQ8.set_ 0 (.int .i64 a)).set_ 1 (.int .i64 (a + 1 + v6))).set_ 2 (.int .i64 (1 + b))).set_ 3 (.int .i64 (1 + d))
    have hG := HFin.out w8 _ _ _ _ hM8 hQ8 (hR8.more (by omega)) hF8
    generalize (((w8.setCell ⟨Q, 0, none⟩ (.int .i64 a)).setCell ⟨Q, 1, none⟩ (.int .i64 (a + 1 + v6))).setCell ⟨Q, 2, none⟩ (.int .i64 (1 + b))).setCell ⟨Q, 3, none⟩ (.int .i64 (1 + d)) = wz at hW hG ⊢
    have e0 : wz.cell? ⟨Q, 0, none⟩ = some (.int .i64 a) := hW.cell 0
    have e1 : wz.cell? ⟨Q, 1, none⟩ = some (.int .i64 (a + 1 + v6)) := hW.cell 1
    have e2 : wz.cell? ⟨Q, 2, none⟩ = some (.int .i64 (1 + b)) := hW.cell 2
    have e3 : wz.cell? ⟨Q, 3, none⟩ = some (.int .i64 (1 + d)) := hW.cell 3
    exact bodyPost_ret (v := .agg #[.int .i64 a, .int .i64 (a + 1 + v6), .int .i64 (1 + b), .int .i64 (1 + d)]) (by simp [results, Tryd.results47, go_sem, e0, e1, e2, e3]) rfl hG
  · go_wp2_with fail
    refine (pick_any w0 _ R A n c bs (J + 5) 4 hR8 (by omega)).mono ?_; rintro e w9 ⟨v9, rfl, hv90, hv91, -, hR9, hf9⟩
    replace hv91 := hv91 (by omega)
    have hM9 := hM8.fr1 hf9 hMR
    have hQ9 := hQ8.fr1 hf9 hQR
    have hF9 := hF8.trans hf9
    have hs9 := hF9.size
    clear hM8 hR8 hF8 hQ8 hf9
    have hv : v9 = 0 ∨ v9 = 1 ∨ v9 = 2 ∨ v9 = 3 := by omega
    rcases hv with rfl | rfl | rfl | rfl
    · have hg0 : w9.cell? ⟨M, 0, none⟩ = some (.int .i64 a) := hM9.cell 0
      go_wp2
      have hRd := hR9.below (Below.refl w9.heap.size w9).drew
      have hGR : w9.heap.size ≠ R := by have := hR9.lt; omega
      have two : ∀ (w' : World) (G k : Nat), Whole w' G 3 [.int .i64 a, .int .i64 7] → k < 2 → ∃ z : Int, w'.cell? ⟨G, k, none⟩ = some (.int .i64 z) := by
        intro w' G k h hk
        have hk2 : k = 0 ∨ k = 1 := by omega
        rcases hk2 with rfl | rfl
        · exact ⟨_, h.cell 0⟩
        · exact ⟨_, h.cell 1⟩
      have HTwo := Lib.hid two
      clear two
      go_region_with (go_at_call 52; refine (pick_any w0 _ R A n c bs (J + 6) 2 (by first | exact hR9.below (Below.refl _ _).drew | exact hR9.below ((Below.refl _ _).drew.alloc (Nat.le_refl _) _)) (by omega)).mono ?_; rintro e w10 ⟨v10, rfl, hv100, hv101, -, hR10, hf10⟩; replace hv101 := hv101 (by omega); obtain ⟨k10, rfl⟩ : ∃ k : Nat, v10 = k := ⟨v10.toNat, by omega⟩; obtain ⟨zB, gB⟩ := HTwo.out (w10.alloc (.cells #[.int .i64 a, .int .i64 7] 3)) w10.heap.size k10 (Whole.new w10 _ _) (by omega); (first | (obtain ⟨zA, gA⟩ := HTwo.out w10 w9.heap.size k10 ((Whole.new w9.drew 3 [.int .i64 a, .int .i64 7]).fr1 hf10 hGR) (by omega)) | skip); have hM10 : Whole w10 M 24 [.int .i64 a, .int .i64 (a + 1 + v6), .int .i64 (1 + b), .int .i64 (1 + d)] := (by first | exact (Whole.drew hM9).fr1 hf10 hMR | exact ((Whole.drew hM9).alloc _).fr1 hf10 hMR); have hM10l := hM10.lt; have g0 : w10.cell? ⟨M, 0, none⟩ = some (.int .i64 a) := hM10.cell 0; have g1 : w10.cell? ⟨M, 1, none⟩ = some (.int .i64 (a + 1 + v6)) := hM10.cell 1; have gz := hM10.free 1)
      · have hQ10 : Whole w10 Q 24 [.int .i64 0, .int .i64 0, .int .i64 0, .int .i64 0] := by first | exact (Whole.drew hQ9).fr1 hf10 hQR | exact ((Whole.drew hQ9).alloc _).fr1 hf10 hQR
        have hF10 : Fr1 R w w10 := by first | exact (hF9.below (Below.refl _ _).drew).trans hf10 | exact (hF9.below ((Below.refl _ _).drew.alloc (Nat.le_refl _) _)).trans hf10
        have hMa := hM10.set_ 1 (.int .i64 zA)
        have hQa := hQ10.far (p := ⟨M, 1, none⟩) hQM (.int .i64 zA)
        have hRa := hR10.set (p := ⟨M, 1, none⟩) hRM (.int .i64 zA)
        have hFa := hF10.far (p := ⟨M, 1, none⟩) hMw (.int .i64 zA)
        clear hM9 hQ9 hR9 hF9 hf10 g0 g1 gz hM10 hQ10 hR10 hF10
        clear gA
        have hm0 : (w10.setCell ⟨M, 1, none⟩ (.int .i64 zA)).cell? ⟨M, 0, none⟩ = some (.int .i64 a) := hMa.cell 0
        have hm1 : (w10.setCell ⟨M, 1, none⟩ (.int .i64 zA)).cell? ⟨M, 1, none⟩ = some (.int .i64 zA) := hMa.cell 1
        have hm2 : (w10.setCell ⟨M, 1, none⟩ (.int .i64 zA)).cell? ⟨M, 2, none⟩ = some (.int .i64 (1 + b)) := hMa.cell 2
        have hm3 : (w10.setCell ⟨M, 1, none⟩ (.int .i64 zA)).cell? ⟨M, 3, none⟩ = some (.int .i64 (1 + d)) := hMa.cell 3
        have hq0 : (w10.setCell ⟨M, 1, none⟩ (.int .i64 zA)).cell? ⟨Q, 0, none⟩ = some (.int .i64 0) := hQa.cell 0
        have hq1 : (w10.setCell ⟨M, 1, none⟩ (.int .i64 zA)).cell? ⟨Q, 1, none⟩ = some (.int .i64 0) := hQa.cell 1
        have hq2 : (w10.setCell ⟨M, 1, none⟩ (.int .i64 zA)).cell? ⟨Q, 2, none⟩ = some (.int .i64 0) := hQa.cell 2
        have hq3 : (w10.setCell ⟨M, 1, none⟩ (.int .i64 zA)).cell? ⟨Q, 3, none⟩ = some (.int .i64 0) := hQa.cell 3
        have hz0 := hQa.free 0
        have hz1 := hQa.free 1
        have hz2 := hQa.free 2
        have hz3 := hQa.free 3
        clear gB
        go_wp2
        have hW := (((hQa.set_ 0 (.int .i64 a)).set_ 1 (.int .i64 zA)).set_ 2 (.int .i64 (1 + b))).set_ 3 (.int .i64 (1 + d))
        have hG := HFin.out (w10.setCell ⟨M, 1, none⟩ (.int .i64 zA)) _ _ _ _ hMa hQa (hRa.more (by omega)) hFa
        generalize ((((w10.setCell ⟨M, 1, none⟩ (.int .i64 zA)).setCell ⟨Q, 0, none⟩ (.int .i64 a)).setCell ⟨Q, 1, none⟩ (.int .i64 zA)).setCell ⟨Q, 2, none⟩ (.int .i64 (1 + b))).setCell ⟨Q, 3, none⟩ (.int .i64 (1 + d)) = wz at hW hG ⊢
        have e0 : wz.cell? ⟨Q, 0, none⟩ = some (.int .i64 a) := hW.cell 0
        have e1 : wz.cell? ⟨Q, 1, none⟩ = some (.int .i64 zA) := hW.cell 1
        have e2 : wz.cell? ⟨Q, 2, none⟩ = some (.int .i64 (1 + b)) := hW.cell 2
        have e3 : wz.cell? ⟨Q, 3, none⟩ = some (.int .i64 (1 + d)) := hW.cell 3
        exact bodyPost_ret (v := .agg #[.int .i64 a, .int .i64 zA, .int .i64 (1 + b), .int .i64 (1 + d)]) (by simp [results, Tryd.results47, go_sem, e0, e1, e2, e3]) rfl hG
      · have hQ10 : Whole w10 Q 24 [.int .i64 0, .int .i64 0, .int .i64 0, .int .i64 0] := by first | exact (Whole.drew hQ9).fr1 hf10 hQR | exact ((Whole.drew hQ9).alloc _).fr1 hf10 hQR
        have hF10 : Fr1 R w w10 := by first | exact (hF9.below (Below.refl _ _).drew).trans hf10 | exact (hF9.below ((Below.refl _ _).drew.alloc (Nat.le_refl _) _)).trans hf10
        have hMa := hM10.set_ 1 (.int .i64 zB)
        have hQa := hQ10.far (p := ⟨M, 1, none⟩) hQM (.int .i64 zB)
        have hRa := hR10.set (p := ⟨M, 1, none⟩) hRM (.int .i64 zB)
        have hFa := hF10.far (p := ⟨M, 1, none⟩) hMw (.int .i64 zB)
        clear hM9 hQ9 hR9 hF9 hf10 g0 g1 gz hM10 hQ10 hR10 hF10
        have hab : Below (w10.setCell ⟨M, 1, none⟩ (.int .i64 zB)).heap.size (w10.setCell ⟨M, 1, none⟩ (.int .i64 zB)) ((w10.setCell ⟨M, 1, none⟩ (.int .i64 zB)).alloc (.cells #[.int .i64 a, .int .i64 7] 3)) := (Below.refl _ _).alloc (Nat.le_refl _) _
        have hMb := hMa.alloc (.cells #[.int .i64 a, .int .i64 7] 3)
        have hQb := hQa.alloc (.cells #[.int .i64 a, .int .i64 7] 3)
        have hRb := hRa.below hab
        have hFb := hFa.below hab
        clear hMa hQa hRa hFa
        have hm0 : ((w10.setCell ⟨M, 1, none⟩ (.int .i64 zB)).alloc (.cells #[.int .i64 a, .int .i64 7] 3)).cell? ⟨M, 0, none⟩ = some (.int .i64 a) := hMb.cell 0
        have hm1 : ((w10.setCell ⟨M, 1, none⟩ (.int .i64 zB)).alloc (.cells #[.int .i64 a, .int .i64 7] 3)).cell? ⟨M, 1, none⟩ = some (.int .i64 zB) := hMb.cell 1
        have hm2 : ((w10.setCell ⟨M, 1, none⟩ (.int .i64 zB)).alloc (.cells #[.int .i64 a, .int .i64 7] 3)).cell? ⟨M, 2, none⟩ = some (.int .i64 (1 + b)) := hMb.cell 2
        have hm3 : ((w10.setCell ⟨M, 1, none⟩ (.int .i64 zB)).alloc (.cells #[.int .i64 a, .int .i64 7] 3)).cell? ⟨M, 3, none⟩ = some (.int .i64 (1 + d)) := hMb.cell 3
        have hq0 : ((w10.setCell ⟨M, 1, none⟩ (.int .i64 zB)).alloc (.cells #[.int .i64 a, .int .i64 7] 3)).cell? ⟨Q, 0, none⟩ = some (.int .i64 0) := hQb.cell 0
        have hq1 : ((w10.setCell ⟨M, 1, none⟩ (.int .i64 zB)).alloc (.cells #[.int .i64 a, .int .i64 7] 3)).cell? ⟨Q, 1, none⟩ = some (.int .i64 0) := hQb.cell 1
        have hq2 : ((w10.setCell ⟨M, 1, none⟩ (.int .i64 zB)).alloc (.cells #[.int .i64 a, .int .i64 7] 3)).cell? ⟨Q, 2, none⟩ = some (.int .i64 0) := hQb.cell 2
        have hq3 : ((w10.setCell ⟨M, 1, none⟩ (.int .i64 zB)).alloc (.cells #[.int .i64 a, .int .i64 7] 3)).cell? ⟨Q, 3, none⟩ = some (.int .i64 0) := hQb.cell 3
        have hz0 := hQb.free 0
        have hz1 := hQb.free 1
        have hz2 := hQb.free 2
        have hz3 := hQb.free 3
        clear gB
        go_wp2
        have hW := (((hQb.set_ 0 (.int .i64 a)).set_ 1 (.int .i64 zB)).set_ 2 (.int .i64 (1 + b))).set_ 3 (.int .i64 (1 + d))
        have hG := HFin.out ((w10.setCell ⟨M, 1, none⟩ (.int .i64 zB)).alloc (.cells #[.int .i64 a, .int .i64 7] 3)) _ _ _ _ hMb hQb (hRb.more (by omega)) hFb
        generalize (((((w10.setCell ⟨M, 1, none⟩ (.int .i64 zB)).alloc (.cells #[.int .i64 a, .int .i64 7] 3)).setCell ⟨Q, 0, none⟩ (.int .i64 a)).setCell ⟨Q, 1, none⟩ (.int .i64 zB)).setCell ⟨Q, 2, none⟩ (.int .i64 (1 + b))).setCell ⟨Q, 3, none⟩ (.int .i64 (1 + d)) = wz at hW hG ⊢
        have e0 : wz.cell? ⟨Q, 0, none⟩ = some (.int .i64 a) := hW.cell 0
        have e1 : wz.cell? ⟨Q, 1, none⟩ = some (.int .i64 zB) := hW.cell 1
        have e2 : wz.cell? ⟨Q, 2, none⟩ = some (.int .i64 (1 + b)) := hW.cell 2
        have e3 : wz.cell? ⟨Q, 3, none⟩ = some (.int .i64 (1 + d)) := hW.cell 3
        exact bodyPost_ret (v := .agg #[.int .i64 a, .int .i64 zB, .int .i64 (1 + b), .int .i64 (1 + d)]) (by simp [results, Tryd.results47, go_sem, e0, e1, e2, e3]) rfl hG
      · have hQ10 : Whole w10 Q 24 [.int .i64 0, .int .i64 0, .int .i64 0, .int .i64 0] := by first | exact (Whole.drew hQ9).fr1 hf10 hQR | exact ((Whole.drew hQ9).alloc _).fr1 hf10 hQR
        have hF10 : Fr1 R w w10 := by first | exact (hF9.below (Below.refl _ _).drew).trans hf10 | exact (hF9.below ((Below.refl _ _).drew.alloc (Nat.le_refl _) _)).trans hf10
        have hMa := hM10.set_ 1 (.int .i64 zB)
        have hQa := hQ10.far (p := ⟨M, 1, none⟩) hQM (.int .i64 zB)
        have hRa := hR10.set (p := ⟨M, 1, none⟩) hRM (.int .i64 zB)
        have hFa := hF10.far (p := ⟨M, 1, none⟩) hMw (.int .i64 zB)
        clear hM9 hQ9 hR9 hF9 hf10 g0 g1 gz hM10 hQ10 hR10 hF10
        have hab : Below (w10.setCell ⟨M, 1, none⟩ (.int .i64 zB)).heap.size (w10.setCell ⟨M, 1, none⟩ (.int .i64 zB)) ((w10.setCell ⟨M, 1, none⟩ (.int .i64 zB)).alloc (.cells #[.int .i64 a, .int .i64 7] 3)) := (Below.refl _ _).alloc (Nat.le_refl _) _
        have hMb := hMa.alloc (.cells #[.int .i64 a, .int .i64 7] 3)
        have hQb := hQa.alloc (.cells #[.int .i64 a, .int .i64 7] 3)
        have hRb := hRa.below hab
        have hFb := hFa.below hab
        clear hMa hQa hRa hFa
        have hm0 : ((w10.setCell ⟨M, 1, none⟩ (.int .i64 zB)).alloc (.cells #[.int .i64 a, .int .i64 7] 3)).cell? ⟨M, 0, none⟩ = some (.int .i64 a) := hMb.cell 0
        have hm1 : ((w10.setCell ⟨M, 1, none⟩ (.int .i64 zB)).alloc (.cells #[.int .i64 a, .int .i64 7] 3)).cell? ⟨M, 1, none⟩ = some (.int .i64 zB) := hMb.cell 1
        have hm2 : ((w10.setCell ⟨M, 1, none⟩ (.int .i64 zB)).alloc (.cells #[.int .i64 a, .int .i64 7] 3)).cell? ⟨M, 2, none⟩ = some (.int .i64 (1 + b)) := hMb.cell 2
        have hm3 : ((w10.setCell ⟨M, 1, none⟩ (.int .i64 zB)).alloc (.cells #[.int .i64 a, .int .i64 7] 3)).cell? ⟨M, 3, none⟩ = some (.int .i64 (1 + d)) := hMb.cell 3
        have hq0 : ((w10.setCell ⟨M, 1, none⟩ (.int .i64 zB)).alloc (.cells #[.int .i64 a, .int .i64 7] 3)).cell? ⟨Q, 0, none⟩ = some (.int .i64 0) := hQb.cell 0
        have hq1 : ((w10.setCell ⟨M, 1, none⟩ (.int .i64 zB)).alloc (.cells #[.int .i64 a, .int .i64 7] 3)).cell? ⟨Q, 1, none⟩ = some (.int .i64 0) := hQb.cell 1
        have hq2 : ((w10.setCell ⟨M, 1, none⟩ (.int .i64 zB)).alloc (.cells #[.int .i64 a, .int .i64 7] 3)).cell? ⟨Q, 2, none⟩ = some (.int .i64 0) := hQb.cell 2
        have hq3 : ((w10.setCell ⟨M, 1, none⟩ (.int .i64 zB)).alloc (.cells #[.int .i64 a, .int .i64 7] 3)).cell? ⟨Q, 3, none⟩ = some (.int .i64 0) := hQb.cell 3
        have hz0 := hQb.free 0
        have hz1 := hQb.free 1
        have hz2 := hQb.free 2
        have hz3 := hQb.free 3
        clear gB
        go_wp2
        have hW := (((hQb.set_ 0 (.int .i64 a)).set_ 1 (.int .i64 zB)).set_ 2 (.int .i64 (1 + b))).set_ 3 (.int .i64 (1 + d))
        have hG := HFin.out ((w10.setCell ⟨M, 1, none⟩ (.int .i64 zB)).alloc (.cells #[.int .i64 a, .int .i64 7] 3)) _ _ _ _ hMb hQb (hRb.more (by omega)) hFb
        generalize (((((w10.setCell ⟨M, 1, none⟩ (.int .i64 zB)).alloc (.cells #[.int .i64 a, .int .i64 7] 3)).setCell ⟨Q, 0, none⟩ (.int .i64 a)).setCell ⟨Q, 1, none⟩ (.int .i64 zB)).setCell ⟨Q, 2, none⟩ (.int .i64 (1 + b))).setCell ⟨Q, 3, none⟩ (.int .i64 (1 + d)) = wz at hW hG ⊢
        have e0 : wz.cell? ⟨Q, 0, none⟩ = some (.int .i64 a) := hW.cell 0
        have e1 : wz.cell? ⟨Q, 1, none⟩ = some (.int .i64 zB) := hW.cell 1
        have e2 : wz.cell? ⟨Q, 2, none⟩ = some (.int .i64 (1 + b)) := hW.cell 2
        have e3 : wz.cell? ⟨Q, 3, none⟩ = some (.int .i64 (1 + d)) := hW.cell 3
        exact bodyPost_ret (v := .agg #[.int .i64 a, .int .i64 zB, .int .i64 (1 + b), .int .i64 (1 + d)]) (by simp [results, Tryd.results47, go_sem, e0, e1, e2, e3]) rfl hG
    · have hg0 : w9.cell? ⟨M, 0, none⟩ = some (.int .i64 a) := hM9.cell 0
      have hg1 := hM9.free 0
      have hM10 := hM9.set_ 0 (.int .i64 (-1))
      have hQ10 := hQ9.far (p := ⟨M, 0, none⟩) hQM (.int .i64 (-1))
      have hR10 := hR9.set (p := ⟨M, 0, none⟩) hRM (.int .i64 (-1))
      have hF10 := hF9.far (p := ⟨M, 0, none⟩) hMw (.int .i64 (-1))
      have hm0 : (w9.setCell ⟨M, 0, none⟩ (.int .i64 (-1))).cell? ⟨M, 0, none⟩ = some (.int .i64 (-1)) := hM10.cell 0
      have hm1 : (w9.setCell ⟨M, 0, none⟩ (.int .i64 (-1))).cell? ⟨M, 1, none⟩ = some (.int .i64 (a + 1 + v6)) := hM10.cell 1
      have hm2 : (w9.setCell ⟨M, 0, none⟩ (.int .i64 (-1))).cell? ⟨M, 2, none⟩ = some (.int .i64 (1 + b)) := hM10.cell 2
      have hm3 : (w9.setCell ⟨M, 0, none⟩ (.int .i64 (-1))).cell? ⟨M, 3, none⟩ = some (.int .i64 (1 + d)) := hM10.cell 3
      have hq0 : (w9.setCell ⟨M, 0, none⟩ (.int .i64 (-1))).cell? ⟨Q, 0, none⟩ = some (.int .i64 0) := hQ10.cell 0
      have hq1 : (w9.setCell ⟨M, 0, none⟩ (.int .i64 (-1))).cell? ⟨Q, 1, none⟩ = some (.int .i64 0) := hQ10.cell 1
      have hq2 : (w9.setCell ⟨M, 0, none⟩ (.int .i64 (-1))).cell? ⟨Q, 2, none⟩ = some (.int .i64 0) := hQ10.cell 2
      have hq3 : (w9.setCell ⟨M, 0, none⟩ (.int .i64 (-1))).cell? ⟨Q, 3, none⟩ = some (.int .i64 0) := hQ10.cell 3
      have hz0 := hQ10.free 0
      have hz1 := hQ10.free 1
      have hz2 := hQ10.free 2
      have hz3 := hQ10.free 3
      go_wp2
      have hW := (((hQ10.set_ 0 (.int .i64 (-1))).set_ 1 (.int .i64 (a + 1 + v6))).set_ 2 (.int .i64 (1 + b))).set_ 3 (.int .i64 (1 + d))
      have hG := HFin.out (w9.setCell ⟨M, 0, none⟩ (.int .i64 (-1))) _ _ _ _ hM10 hQ10 (hR10.more (by omega)) hF10
      generalize ((((w9.setCell ⟨M, 0, none⟩ (.int .i64 (-1))).setCell ⟨Q, 0, none⟩ (.int .i64 (-1))).setCell ⟨Q, 1, none⟩ (.int .i64 (a + 1 + v6))).setCell ⟨Q, 2, none⟩ (.int .i64 (1 + b))).setCell ⟨Q, 3, none⟩ (.int .i64 (1 + d)) = wz at hW hG ⊢
      have e0 : wz.cell? ⟨Q, 0, none⟩ = some (.int .i64 (-1)) := hW.cell 0
      have e1 : wz.cell? ⟨Q, 1, none⟩ = some (.int .i64 (a + 1 + v6)) := hW.cell 1
      have e2 : wz.cell? ⟨Q, 2, none⟩ = some (.int .i64 (1 + b)) := hW.cell 2
      have e3 : wz.cell? ⟨Q, 3, none⟩ = some (.int .i64 (1 + d)) := hW.cell 3
      exact bodyPost_ret (v := .agg #[.int .i64 (-1), .int .i64 (a + 1 + v6), .int .i64 (1 + b), .int .i64 (1 + d)]) (by simp [results, Tryd.results47, go_sem, e0, e1, e2, e3]) rfl hG
    · go_wp2_with fail
      have hG9 : Whole (w9.alloc (.cells #[.int .i64 0, .int .i64 31] 3)) w9.heap.size 3 [.int .i64 0, .int .i64 31] := Whole.new w9 _ _
      have hb9 : Below w9.heap.size w9 (w9.alloc (.cells #[.int .i64 0, .int .i64 31] 3)) := (Below.refl _ _).alloc (Nat.le_refl _) _
      generalize w9.alloc (.cells #[.int .i64 0, .int .i64 31] 3) = wa at hG9 hb9 ⊢
      refine (pick_any w0 _ R A n c bs (J + 6) 2 (hR9.below hb9) (by omega)).mono ?_; rintro e w10 ⟨v10, rfl, hv100, hv101, -, hR10, hf10⟩
      replace hv101 := hv101 (by omega)
      have hGR : w9.heap.size ≠ R := by have := hR9.lt; omega
      have hG10 := hG9.fr1 hf10 hGR
      have hM10 := (hM9.below hb9).fr1 hf10 hMR
      have hQ10 := (hQ9.below hb9).fr1 hf10 hQR
      have hF10 := (hF9.below hb9).trans hf10
      obtain ⟨G, HG⟩ : ∃ G, Hid (G = w9.heap.size) := ⟨_, rfl⟩
      rw [← HG.out] at hG10 ⊢
      clear hGR hG9 hM9 hQ9 hR9 hF9 hf10
      have hg0 : w10.cell? ⟨M, 2, none⟩ = some (.int .i64 (1 + b)) := hM10.cell 2
      have hg1 := hM10.free 2
      have hv : v10 = 0 ∨ v10 = 1 := by omega
      rcases hv with rfl | rfl
      · have hc0 : w10.cell? ⟨G, 0, none⟩ = some (.int .i64 0) := hG10.cell 0
        have hM11 := hM10.set_ 2 (.int .i64 0)
        have hQ11 := hQ10.far (p := ⟨M, 2, none⟩) hQM (.int .i64 0)
        have hR11 := hR10.set (p := ⟨M, 2, none⟩) hRM (.int .i64 0)
        have hF11 := hF10.far (p := ⟨M, 2, none⟩) hMw (.int .i64 0)
        have hm0 : (w10.setCell ⟨M, 2, none⟩ (.int .i64 0)).cell? ⟨M, 0, none⟩ = some (.int .i64 a) := hM11.cell 0
        have hm1 : (w10.setCell ⟨M, 2, none⟩ (.int .i64 0)).cell? ⟨M, 1, none⟩ = some (.int .i64 (a + 1 + v6)) := hM11.cell 1
        have hm2 : (w10.setCell ⟨M, 2, none⟩ (.int .i64 0)).cell? ⟨M, 2, none⟩ = some (.int .i64 0) := hM11.cell 2
        have hm3 : (w10.setCell ⟨M, 2, none⟩ (.int .i64 0)).cell? ⟨M, 3, none⟩ = some (.int .i64 (1 + d)) := hM11.cell 3
        have hq0 : (w10.setCell ⟨M, 2, none⟩ (.int .i64 0)).cell? ⟨Q, 0, none⟩ = some (.int .i64 0) := hQ11.cell 0
        have hq1 : (w10.setCell ⟨M, 2, none⟩ (.int .i64 0)).cell? ⟨Q, 1, none⟩ = some (.int .i64 0) := hQ11.cell 1
        have hq2 : (w10.setCell ⟨M, 2, none⟩ (.int .i64 0)).cell? ⟨Q, 2, none⟩ = some (.int .i64 0) := hQ11.cell 2
        have hq3 : (w10.setCell ⟨M, 2, none⟩ (.int .i64 0)).cell? ⟨Q, 3, none⟩ = some (.int .i64 0) := hQ11.cell 3
        have hz0 := hQ11.free 0
        have hz1 := hQ11.free 1
        have hz2 := hQ11.free 2
        have hz3 := hQ11.free 3
        go_wp2
        have hW := (((hQ11.set_ 0 (.int .i64 a)).set_ 1 (.int .i64 (a + 1 + v6))).set_ 2 (.int .i64 0)).set_ 3 (.int .i64 (1 + d))
        have hG := HFin.out (w10.setCell ⟨M, 2, none⟩ (.int .i64 0)) _ _ _ _ hM11 hQ11 (hR11.more (by omega)) hF11
        generalize ((((w10.setCell ⟨M, 2, none⟩ (.int .i64 0)).setCell ⟨Q, 0, none⟩ (.int .i64 a)).setCell ⟨Q, 1, none⟩ (.int .i64 (a + 1 + v6))).setCell ⟨Q, 2, none⟩ (.int .i64 0)).setCell ⟨Q, 3, none⟩ (.int .i64 (1 + d)) = wz at hW hG ⊢
        have e0 : wz.cell? ⟨Q, 0, none⟩ = some (.int .i64 a) := hW.cell 0
        have e1 : wz.cell? ⟨Q, 1, none⟩ = some (.int .i64 (a + 1 + v6)) := hW.cell 1
        have e2 : wz.cell? ⟨Q, 2, none⟩ = some (.int .i64 0) := hW.cell 2
        have e3 : wz.cell? ⟨Q, 3, none⟩ = some (.int .i64 (1 + d)) := hW.cell 3
        exact bodyPost_ret (v := .agg #[.int .i64 a, .int .i64 (a + 1 + v6), .int .i64 0, .int .i64 (1 + d)]) (by simp [results, Tryd.results47, go_sem, e0, e1, e2, e3]) rfl hG
      · have hc0 : w10.cell? ⟨G, 1, none⟩ = some (.int .i64 31) := hG10.cell 1
        have hM11 := hM10.set_ 2 (.int .i64 31)
        have hQ11 := hQ10.far (p := ⟨M, 2, none⟩) hQM (.int .i64 31)
        have hR11 := hR10.set (p := ⟨M, 2, none⟩) hRM (.int .i64 31)
        have hF11 := hF10.far (p := ⟨M, 2, none⟩) hMw (.int .i64 31)
        have hm0 : (w10.setCell ⟨M, 2, none⟩ (.int .i64 31)).cell? ⟨M, 0, none⟩ = some (.int .i64 a) := hM11.cell 0
        have hm1 : (w10.setCell ⟨M, 2, none⟩ (.int .i64 31)).cell? ⟨M, 1, none⟩ = some (.int .i64 (a + 1 + v6)) := hM11.cell 1
        have hm2 : (w10.setCell ⟨M, 2, none⟩ (.int .i64 31)).cell? ⟨M, 2, none⟩ = some (.int .i64 31) := hM11.cell 2
        have hm3 : (w10.setCell ⟨M, 2, none⟩ (.int .i64 31)).cell? ⟨M, 3, none⟩ = some (.int .i64 (1 + d)) := hM11.cell 3
        have hq0 : (w10.setCell ⟨M, 2, none⟩ (.int .i64 31)).cell? ⟨Q, 0, none⟩ = some (.int .i64 0) := hQ11.cell 0
        have hq1 : (w10.setCell ⟨M, 2, none⟩ (.int .i64 31)).cell? ⟨Q, 1, none⟩ = some (.int .i64 0) := hQ11.cell 1
        have hq2 : (w10.setCell ⟨M, 2, none⟩ (.int .i64 31)).cell? ⟨Q, 2, none⟩ = some (.int .i64 0) := hQ11.cell 2
        have hq3 : (w10.setCell ⟨M, 2, none⟩ (.int .i64 31)).cell? ⟨Q, 3, none⟩ = some (.int .i64 0) := hQ11.cell 3
        have hz0 := hQ11.free 0
        have hz1 := hQ11.free 1
        have hz2 := hQ11.free 2
        have hz3 := hQ11.free 3
        go_wp2
        have hW := (((hQ11.set_ 0 (.int .i64 a)).set_ 1 (.int .i64 (a + 1 + v6))).set_ 2 (.int .i64 31)).set_ 3 (.int .i64 (1 + d))
        have hG := HFin.out (w10.setCell ⟨M, 2, none⟩ (.int .i64 31)) _ _ _ _ hM11 hQ11 (hR11.more (by omega)) hF11
        generalize ((((w10.setCell ⟨M, 2, none⟩ (.int .i64 31)).setCell ⟨Q, 0, none⟩ (.int .i64 a)).setCell ⟨Q, 1, none⟩ (.int .i64 (a + 1 + v6))).setCell ⟨Q, 2, none⟩ (.int .i64 31)).setCell ⟨Q, 3, none⟩ (.int .i64 (1 + d)) = wz at hW hG ⊢
        have e0 : wz.cell? ⟨Q, 0, none⟩ = some (.int .i64 a) := hW.cell 0
        have e1 : wz.cell? ⟨Q, 1, none⟩ = some (.int .i64 (a + 1 + v6)) := hW.cell 1
        have e2 : wz.cell? ⟨Q, 2, none⟩ = some (.int .i64 31) := hW.cell 2
        have e3 : wz.cell? ⟨Q, 3, none⟩ = some (.int .i64 (1 + d)) := hW.cell 3
        exact bodyPost_ret (v := .agg #[.int .i64 a, .int .i64 (a + 1 + v6), .int .i64 31, .int .i64 (1 + d)]) (by simp [results, Tryd.results47, go_sem, e0, e1, e2, e3]) rfl hG
    · go_wp2_with fail
      have hG9 : Whole (w9.alloc (.cells #[.int .i64 0, .int .i64 31] 3)) w9.heap.size 3 [.int .i64 0, .int .i64 31] := Whole.new w9 _ _
      have hb9 : Below w9.heap.size w9 (w9.alloc (.cells #[.int .i64 0, .int .i64 31] 3)) := (Below.refl _ _).alloc (Nat.le_refl _) _
      generalize w9.alloc (.cells #[.int .i64 0, .int .i64 31] 3) = wa at hG9 hb9 ⊢
      refine (pick_any w0 _ R A n c bs (J + 6) 2 (hR9.below hb9) (by omega)).mono ?_; rintro e w10 ⟨v10, rfl, hv100, hv101, -, hR10, hf10⟩
      replace hv101 := hv101 (by omega)
      have hGR : w9.heap.size ≠ R := by have := hR9.lt; omega
      have hG10 := hG9.fr1 hf10 hGR
      have hM10 := (hM9.below hb9).fr1 hf10 hMR
      have hQ10 := (hQ9.below hb9).fr1 hf10 hQR
      have hF10 := (hF9.below hb9).trans hf10
      obtain ⟨G, HG⟩ : ∃ G, Hid (G = w9.heap.size) := ⟨_, rfl⟩
      rw [← HG.out] at hG10 ⊢
      clear hGR hG9 hM9 hQ9 hR9 hF9 hf10
      have hg0 : w10.cell? ⟨M, 3, none⟩ = some (.int .i64 (1 + d)) := hM10.cell 3
      have hg1 := hM10.free 3
      have hv : v10 = 0 ∨ v10 = 1 := by omega
      rcases hv with rfl | rfl
      · have hc0 : w10.cell? ⟨G, 0, none⟩ = some (.int .i64 0) := hG10.cell 0
        have hM11 := hM10.set_ 3 (.int .i64 0)
        have hQ11 := hQ10.far (p := ⟨M, 3, none⟩) hQM (.int .i64 0)
        have hR11 := hR10.set (p := ⟨M, 3, none⟩) hRM (.int .i64 0)
        have hF11 := hF10.far (p := ⟨M, 3, none⟩) hMw (.int .i64 0)
        have hm0 : (w10.setCell ⟨M, 3, none⟩ (.int .i64 0)).cell? ⟨M, 0, none⟩ = some (.int .i64 a) := hM11.cell 0
        have hm1 : (w10.setCell ⟨M, 3, none⟩ (.int .i64 0)).cell? ⟨M, 1, none⟩ = some (.int .i64 (a + 1 + v6)) := hM11.cell 1
        have hm2 : (w10.setCell ⟨M, 3, none⟩ (.int .i64 0)).cell? ⟨M, 2, none⟩ = some (.int .i64 (1 + b)) := hM11.cell 2
        have hm3 : (w10.setCell ⟨M, 3, none⟩ (.int .i64 0)).cell? ⟨M, 3, none⟩ = some (.int .i64 0) := hM11.cell 3
        have hq0 : (w10.setCell ⟨M, 3, none⟩ (.int .i64 0)).cell? ⟨Q, 0, none⟩ = some (.int .i64 0) := hQ11.cell 0
        have hq1 : (w10.setCell ⟨M, 3, none⟩ (.int .i64 0)).cell? ⟨Q, 1, none⟩ = some (.int .i64 0) := hQ11.cell 1
        have hq2 : (w10.setCell ⟨M, 3, none⟩ (.int .i64 0)).cell? ⟨Q, 2, none⟩ = some (.int .i64 0) := hQ11.cell 2
        have hq3 : (w10.setCell ⟨M, 3, none⟩ (.int .i64 0)).cell? ⟨Q, 3, none⟩ = some (.int .i64 0) := hQ11.cell 3
        have hz0 := hQ11.free 0
        have hz1 := hQ11.free 1
        have hz2 := hQ11.free 2
        have hz3 := hQ11.free 3
        go_wp2
        have hW := (((hQ11.set_ 0 (.int .i64 a)).set_ 1 (.int .i64 (a + 1 + v6))).set_ 2 (.int .i64 (1 + b))).set_ 3 (.int .i64 0)
        have hG := HFin.out (w10.setCell ⟨M, 3, none⟩ (.int .i64 0)) _ _ _ _ hM11 hQ11 (hR11.more (by omega)) hF11
        generalize ((((w10.setCell ⟨M, 3, none⟩ (.int .i64 0)).setCell ⟨Q, 0, none⟩ (.int .i64 a)).setCell ⟨Q, 1, none⟩ (.int .i64 (a + 1 + v6))).setCell ⟨Q, 2, none⟩ (.int .i64 (1 + b))).setCell ⟨Q, 3, none⟩ (.int .i64 0) = wz at hW hG ⊢
        have e0 : wz.cell? ⟨Q, 0, none⟩ = some (.int .i64 a) := hW.cell 0
        have e1 : wz.cell? ⟨Q, 1, none⟩ = some (.int .i64 (a + 1 + v6)) := hW.cell 1
        have e2 : wz.cell? ⟨Q, 2, none⟩ = some (.int .i64 (1 + b)) := hW.cell 2
        have e3 : wz.cell? ⟨Q, 3, none⟩ = some (.int .i64 0) := hW.cell 3
        exact bodyPost_ret (v := .agg #[.int .i64 a, .int .i64 (a + 1 + v6), .int .i64 (1 + b), .int .i64 0]) (by simp [results, Tryd.results47, go_sem, e0, e1, e2, e3]) rfl hG
      · have hc0 : w10.cell? ⟨G, 1, none⟩ = some (.int .i64 31) := hG10.cell 1
        have hM11 := hM10.set_ 3 (.int .i64 31)
        have hQ11 := hQ10.far (p := ⟨M, 3, none⟩) hQM (.int .i64 31)
        have hR11 := hR10.set (p := ⟨M, 3, none⟩) hRM (.int .i64 31)
        have hF11 := hF10.far (p := ⟨M, 3, none⟩) hMw (.int .i64 31)
        have hm0 : (w10.setCell ⟨M, 3, none⟩ (.int .i64 31)).cell? ⟨M, 0, none⟩ = some (.int .i64 a) := hM11.cell 0
        have hm1 : (w10.setCell ⟨M, 3, none⟩ (.int .i64 31)).cell? ⟨M, 1, none⟩ = some (.int .i64 (a + 1 + v6)) := hM11.cell 1
        have hm2 : (w10.setCell ⟨M, 3, none⟩ (.int .i64 31)).cell? ⟨M, 2, none⟩ = some (.int .i64 (1 + b)) := hM11.cell 2
        have hm3 : (w10.setCell ⟨M, 3, none⟩ (.int .i64 31)).cell? ⟨M, 3, none⟩ = some (.int .i64 31) := hM11.cell 3
        have hq0 : (w10.setCell ⟨M, 3, none⟩ (.int .i64 31)).cell? ⟨Q, 0, none⟩ = some (.int .i64 0) := hQ11.cell 0
        have hq1 : (w10.setCell ⟨M, 3, none⟩ (.int .i64 31)).cell? ⟨Q, 1, none⟩ = some (.int .i64 0) := hQ11.cell 1
        have hq2 : (w10.setCell ⟨M, 3, none⟩ (.int .i64 31)).cell? ⟨Q, 2, none⟩ = some (.int .i64 0) := hQ11.cell 2
        have hq3 : (w10.setCell ⟨M, 3, none⟩ (.int .i64 31)).cell? ⟨Q, 3, none⟩ = some (.int .i64 0) := hQ11.cell 3
        have hz0 := hQ11.free 0
        have hz1 := hQ11.free 1
        have hz2 := hQ11.free 2
        have hz3 := hQ11.free 3
        go_wp2
        have hW := (((hQ11.set_ 0 (.int .i64 a)).set_ 1 (.int .i64 (a + 1 + v6))).set_ 2 (.int .i64 (1 + b))).set_ 3 (.int .i64 31)
        have hG := HFin.out (w10.setCell ⟨M, 3, none⟩ (.int .i64 31)) _ _ _ _ hM11 hQ11 (hR11.more (by omega)) hF11
        generalize ((((w10.setCell ⟨M, 3, none⟩ (.int .i64 31)).setCell ⟨Q, 0, none⟩ (.int .i64 a)).setCell ⟨Q, 1, none⟩ (.int .i64 (a + 1 + v6))).setCell ⟨Q, 2, none⟩ (.int .i64 (1 + b))).setCell ⟨Q, 3, none⟩ (.int .i64 31) = wz at hW hG ⊢
        have e0 : wz.cell? ⟨Q, 0, none⟩ = some (.int .i64 a) := hW.cell 0
        have e1 : wz.cell? ⟨Q, 1, none⟩ = some (.int .i64 (a + 1 + v6)) := hW.cell 1
        have e2 : wz.cell? ⟨Q, 2, none⟩ = some (.int .i64 (1 + b)) := hW.cell 2
        have e3 : wz.cell? ⟨Q, 3, none⟩ = some (.int .i64 31) := hW.cell 3
        exact bodyPost_ret (v := .agg #[.int .i64 a, .int .i64 (a + 1 + v6), .int .i64 (1 + b), .int .i64 31]) (by simp [results, Tryd.results47, go_sem, e0, e1, e2, e3]) rfl hG
end Go.Proofs.YtobkljhbmeglpaaDoor
