/-
  The sort by exchanges that puts great cars first: its comparison, and the library's insertion sort and stable sort on at most six numbers.
-/
import Derived.Test.YtmmaeninlhbaaaaDoorSortP
import Derived.Test.YtmmaeninlhbaaaaDoorPush
import Derived.Test.YtmmaeninlhbaaaaDoorCars
import Derived.BigRegion
import Derived.Deep.CutRange
namespace Go.Proofs.YtmmaeninlhbaaaaDoor
open Go.ChangeShapes Go.WideShapes Go.ChangeAt Go.RowKit

set_option maxHeartbeats 1000000 in
theorem sizeSum_any (x : C4) (w : World) (r13 : 1 ≤ x.t) (r14 : x.t ≤ 9) (r15 : 1 ≤ x.r) (r16 : x.r ≤ 9) (r17 : 1 ≤ x.u) (r18 : x.u ≤ 9) :
    Calls Tryd.prog 49 #[.agg #[.int .i64 x.f, .int .i64 x.t, .int .i64 x.r, .int .i64 x.u]] w (RV w (.int .i64 (szC x))) := by
  go_enter Tryd.func49, Tryd.ntmps49
  go_wp2
  go_ret
  exact ⟨rfl, (Below.refl _ _).alloc (Nat.le_refl _) _⟩

set_option maxRecDepth 100000 in
set_option maxHeartbeats 2000000 in
theorem cmp_any (kb : Nat) (A : Option Addr) (n c : Nat) (cs : List C4) (w : World) (a b : Nat) (hx : CarsAt w A n cs) (hcb : carsB cs = true) (hbox : w.cell? ⟨kb, 0, none⟩ = some (.slice A n c)) (ha : a < n) (hb : b < n) :
    Calls Tryd.prog 48 #[.int .i64 (a : Int), .int .i64 (b : Int), .pointer (some ⟨kb, 0, none⟩)] w (RV w (.int .i64 (szAt cs b - szAt cs a))) := by
  have hKl := World.block_lt_of_cell? w ⟨kb, 0, none⟩ hbox
  obtain ⟨x, g, off, HX, rfl, hgc, c0, c1, c2, c3⟩ := hx.get ha
  obtain ⟨y, by_, oy, HY, hey, -, d0, d1, d2, d3⟩ := hx.get hb
  injection hey with hey; injection hey with e1 e2; subst e1; subst e2
  obtain ⟨-, ⟨x1, x2⟩, ⟨x3, x4⟩, x5, x6⟩ := car_range (carsB_get hcb HX)
  obtain ⟨-, ⟨y1, y2⟩, ⟨y3, y4⟩, y5, y6⟩ := car_range (carsB_get hcb HY)
  have hsx : szAt cs a = szC x := szAt_get HX
  have hsy : szAt cs b = szC y := szAt_get HY
  rw [hsx, hsy]
  have hbx : 0 ≤ szC x ∧ szC x ≤ 27 := by unfold szC; omega
  have hby : 0 ≤ szC y ∧ szC y ≤ 27 := by unfold szC; omega
  have hla : (a : Int) < (n : Int) := by omega
  have hlb : (b : Int) < (n : Int) := by omega
  have ha0 : (0 : Int) ≤ (a : Int) := by omega
  have hb0 : (0 : Int) ≤ (b : Int) := by omega
  have hwr : IntKind.i64.wrap (szC y - szC x) = szC y - szC x := IntWalk.i64_in _ (by omega)
  clear HX HY hsx hsy hx hcb
  go_enter Tryd.func48, Tryd.ntmps48
  go_upto_region 1 with fail
  refine wp_region_held_drew (S := (fun w' => w'.cell? ⟨kb, 0, none⟩ = some (.slice (some ⟨g, off, none⟩) n c) ∧ w'.cell? ⟨g, off + a * 4, none⟩ = some (.int .i64 x.f) ∧ w'.cell? ⟨g, off + a * 4 + 1, none⟩ = some (.int .i64 x.t) ∧ w'.cell? ⟨g, off + a * 4 + 2, none⟩ = some (.int .i64 x.r) ∧ w'.cell? ⟨g, off + a * 4 + 3, none⟩ = some (.int .i64 x.u) ∧ w'.cell? ⟨g, off + b * 4, none⟩ = some (.int .i64 y.f) ∧ w'.cell? ⟨g, off + b * 4 + 1, none⟩ = some (.int .i64 y.t) ∧ w'.cell? ⟨g, off + b * 4 + 2, none⟩ = some (.int .i64 y.r) ∧ w'.cell? ⟨g, off + b * 4 + 3, none⟩ = some (.int .i64 y.u))) (by kernel_rfl) ?_ (fun hHeld => ?_)
  · (try dsimp only); first | exact ⟨hbox, c0, c1, c2, c3, d0, d1, d2, d3⟩ | exact ⟨(hb1.cell (p := ⟨kb, 0, none⟩) hKl).trans hbox, (hb1.cell (p := ⟨g, off + a * 4, none⟩) hgc).trans c0, (hb1.cell (p := ⟨g, off + a * 4 + 1, none⟩) hgc).trans c1, (hb1.cell (p := ⟨g, off + a * 4 + 2, none⟩) hgc).trans c2, (hb1.cell (p := ⟨g, off + a * 4 + 3, none⟩) hgc).trans c3, (hb1.cell (p := ⟨g, off + b * 4, none⟩) hgc).trans d0, (hb1.cell (p := ⟨g, off + b * 4 + 1, none⟩) hgc).trans d1, (hb1.cell (p := ⟨g, off + b * 4 + 2, none⟩) hgc).trans d2, (hb1.cell (p := ⟨g, off + b * 4 + 3, none⟩) hgc).trans d3⟩ | exact k9
  refine wpAnyH_take (i := 0) (v := ?vq1_0) (by simp only [List.getElem?_toArray, List.getElem?_cons_zero]; rfl) (by kernel_rfl) (by kernel_rfl) (by kernel_rfl) (by exact fun _ _ _ h => h) (Or.inl ⟨by rfl, ?hq1_0⟩) hHeld ?rq1_0
  case hq1_0 => (intro w hSw; (try dsimp only at hSw); go_simp; (try with_reducible rfl))
  try simp only [put_laws]
  refine wpAnyH_take (i := 1) (v := ?vq1_1) (by simp only [List.getElem?_toArray, List.getElem?_cons_succ, List.getElem?_cons_zero]; rfl) (by kernel_rfl) (by kernel_rfl) (by kernel_rfl) (by exact fun _ _ _ h => h) (Or.inl ⟨by rfl, ?hq1_1⟩) hHeld ?rq1_1
  case hq1_1 => (intro w hSw; (try dsimp only at hSw); go_simp; (try with_reducible rfl))
  try simp only [put_laws]
  refine wpAnyH_take (i := 2) (v := ?vq1_2) (by simp only [List.getElem?_toArray, List.getElem?_cons_succ, List.getElem?_cons_zero]; rfl) (by kernel_rfl) (by kernel_rfl) (by kernel_rfl) (by exact fun _ _ _ h => h) (Or.inl ⟨by rfl, ?hq1_2⟩) hHeld ?rq1_2
  case hq1_2 => (intro w hSw; (try dsimp only at hSw); go_simp; (try with_reducible rfl))
  try simp only [put_laws]
  refine wpAnyH_take (i := 3) (v := ?vq1_3) (by simp only [List.getElem?_toArray, List.getElem?_cons_succ, List.getElem?_cons_zero]; rfl) (by kernel_rfl) (by kernel_rfl) (by kernel_rfl) (by exact fun _ _ _ h => h) (Or.inl ⟨by rfl, ?hq1_3⟩) hHeld ?rq1_3
  case hq1_3 => (intro w hSw; (try dsimp only at hSw); go_simp; (try with_reducible rfl))
  try simp only [put_laws]
  refine wpAnyH_take (i := 5) (v := ?vq1_5) (by simp only [List.getElem?_toArray, List.getElem?_cons_succ, List.getElem?_cons_zero]; rfl) (by kernel_rfl) (by kernel_rfl) (by kernel_rfl) (by exact fun _ _ _ h => h) (Or.inl ⟨by rfl, ?hq1_5⟩) hHeld ?rq1_5
  case hq1_5 => (intro w hSw; (try dsimp only at hSw); go_simp; (try with_reducible rfl))
  try simp only [put_laws]
  refine wpAnyH_take (i := 6) (v := ?vq1_6) (by simp only [List.getElem?_toArray, List.getElem?_cons_succ, List.getElem?_cons_zero]; rfl) (by kernel_rfl) (by kernel_rfl) (by kernel_rfl) (by exact fun _ _ _ h => h) (Or.inl ⟨by rfl, ?hq1_6⟩) hHeld ?rq1_6
  case hq1_6 => (intro w hSw; (try dsimp only at hSw); go_simp; (try with_reducible rfl))
  try simp only [put_laws]
  refine wpAnyH_take (i := 7) (v := ?vq1_7) (by simp only [List.getElem?_toArray, List.getElem?_cons_succ, List.getElem?_cons_zero]; rfl) (by kernel_rfl) (by kernel_rfl) (by kernel_rfl) (by exact fun _ _ _ h => h) (Or.inl ⟨by rfl, ?hq1_7⟩) hHeld ?rq1_7
  case hq1_7 => (intro w hSw; (try dsimp only at hSw); go_simp; (try with_reducible rfl))
  try simp only [put_laws]
  refine wpAnyH_take (i := 8) (v := ?vq1_8) (by simp only [List.getElem?_toArray, List.getElem?_cons_succ, List.getElem?_cons_zero]; rfl) (by kernel_rfl) (by kernel_rfl) (by kernel_rfl) (by exact fun _ _ _ h => h) (Or.inl ⟨by rfl, ?hq1_8⟩) hHeld ?rq1_8
  case hq1_8 => (intro w hSw; (try dsimp only at hSw); go_simp; (try with_reducible rfl))
  try simp only [put_laws]
  refine wpAnyH_ready (rs := [4]) (by kernel_rfl) (by simp) ?_
  refine AllReadyH.cons (by simp only [List.getElem?_toArray, List.getElem?_cons_succ, List.getElem?_cons_zero]; rfl) (fun K hK => ?_) AllReadyH.nil
  go_simp
  refine (sizeSum_any y _ y1 y2 y3 y4 y5 y6).mono ?_; rintro e w1 ⟨rfl, hb1⟩
  refine hK.out _ _ ?_ (fun hHeld => ?_)
  · (try dsimp only); first | exact ⟨hbox, c0, c1, c2, c3, d0, d1, d2, d3⟩ | exact ⟨(hb1.cell (p := ⟨kb, 0, none⟩) hKl).trans hbox, (hb1.cell (p := ⟨g, off + a * 4, none⟩) hgc).trans c0, (hb1.cell (p := ⟨g, off + a * 4 + 1, none⟩) hgc).trans c1, (hb1.cell (p := ⟨g, off + a * 4 + 2, none⟩) hgc).trans c2, (hb1.cell (p := ⟨g, off + a * 4 + 3, none⟩) hgc).trans c3, (hb1.cell (p := ⟨g, off + b * 4, none⟩) hgc).trans d0, (hb1.cell (p := ⟨g, off + b * 4 + 1, none⟩) hgc).trans d1, (hb1.cell (p := ⟨g, off + b * 4 + 2, none⟩) hgc).trans d2, (hb1.cell (p := ⟨g, off + b * 4 + 3, none⟩) hgc).trans d3⟩ | exact k9
  clear hK K
  try simp only [put_laws]
  refine wpAnyH_ready (rs := [9]) (by kernel_rfl) (by simp) ?_
  refine AllReadyH.cons (by simp only [List.getElem?_toArray, List.getElem?_cons_succ, List.getElem?_cons_zero]; rfl) (fun K hK => ?_) AllReadyH.nil
  go_simp
  refine (sizeSum_any x _ x1 x2 x3 x4 x5 x6).mono ?_; rintro e w2 ⟨rfl, hb2⟩; have hB2 := below_next hb1 hb2; have k9 := (And.intro ((hB2.cell (p := ⟨kb, 0, none⟩) hKl).trans hbox) (And.intro ((hB2.cell (p := ⟨g, off + a * 4, none⟩) hgc).trans c0) (And.intro ((hB2.cell (p := ⟨g, off + a * 4 + 1, none⟩) hgc).trans c1) (And.intro ((hB2.cell (p := ⟨g, off + a * 4 + 2, none⟩) hgc).trans c2) (And.intro ((hB2.cell (p := ⟨g, off + a * 4 + 3, none⟩) hgc).trans c3) (And.intro ((hB2.cell (p := ⟨g, off + b * 4, none⟩) hgc).trans d0) (And.intro ((hB2.cell (p := ⟨g, off + b * 4 + 1, none⟩) hgc).trans d1) (And.intro ((hB2.cell (p := ⟨g, off + b * 4 + 2, none⟩) hgc).trans d2) ((hB2.cell (p := ⟨g, off + b * 4 + 3, none⟩) hgc).trans d3)))))))))
  refine hK.out _ _ ?_ (fun hHeld => ?_)
  · (try dsimp only); first | exact ⟨hbox, c0, c1, c2, c3, d0, d1, d2, d3⟩ | exact ⟨(hb1.cell (p := ⟨kb, 0, none⟩) hKl).trans hbox, (hb1.cell (p := ⟨g, off + a * 4, none⟩) hgc).trans c0, (hb1.cell (p := ⟨g, off + a * 4 + 1, none⟩) hgc).trans c1, (hb1.cell (p := ⟨g, off + a * 4 + 2, none⟩) hgc).trans c2, (hb1.cell (p := ⟨g, off + a * 4 + 3, none⟩) hgc).trans c3, (hb1.cell (p := ⟨g, off + b * 4, none⟩) hgc).trans d0, (hb1.cell (p := ⟨g, off + b * 4 + 1, none⟩) hgc).trans d1, (hb1.cell (p := ⟨g, off + b * 4 + 2, none⟩) hgc).trans d2, (hb1.cell (p := ⟨g, off + b * 4 + 3, none⟩) hgc).trans d3⟩ | exact k9
  clear hK K
  try simp only [put_laws]
  refine wpAnyH_take (i := 10) (v := ?vq1_10) (by simp only [List.getElem?_toArray, List.getElem?_cons_succ, List.getElem?_cons_zero]; rfl) (by kernel_rfl) (by kernel_rfl) (by kernel_rfl) (by exact fun _ _ _ h => h) (Or.inl ⟨by rfl, ?hq1_10⟩) hHeld ?rq1_10
  case hq1_10 => (intro w hSw; (try dsimp only at hSw); go_simp; (try with_reducible rfl))
  try simp only [put_laws]
  refine wpAnyH_take (i := 11) (v := ?vq1_11) (by simp only [List.getElem?_toArray, List.getElem?_cons_succ, List.getElem?_cons_zero]; rfl) (by kernel_rfl) (by kernel_rfl) (by kernel_rfl) (by exact fun _ _ _ h => h) (Or.inl ⟨by rfl, ?hq1_11⟩) hHeld ?rq1_11
  case hq1_11 => (intro w hSw; (try dsimp only at hSw); go_simp; (try with_reducible rfl))
  try simp only [put_laws]
  refine wpAnyH_done (by kernel_rfl) ?_ _
  have hB2 := below_next hb1 hb2
  have hbn : Below w.heap.size w w2 := ((Below.refl w.heap.size w).drew).trans (hB2.mono (Nat.le_refl _))
  clear hHeld hB2 hb1 hb2 k9
  go_wp2
  go_ret
  exact ⟨rfl, hbn⟩
end Go.Proofs.YtmmaeninlhbaaaaDoor
