/-
  HoleSlides of the program along the way of a nearest free cell.
-/
import Derived.Test.YtdebjcempkgeaaaGreatDoorSlC
import Derived.Test.YtdebjcempkgeaaaGreatDoorHallF
import Derived.Deep.RegionWith
namespace Go.Proofs.YtdebjcempkgeaaaGreatDoor
open Go.ChangeShapes Go.WideShapes Go.ChangeAt Go.RowKit

theorem pcN_step {W D n f i : Nat} (S : Shp W D n) (hf : f < n) (hi : i < dN W f) : apN W (pcN W f i) (pcN W f (i + 1)) = 1 ∧ apN W (pcN W f (i + 1)) (pcN W f i) = 1 := by
  obtain ⟨h1, h2⟩ := pcN_ok S hf i (by omega)
  have h0 : pcN W f i ≠ 0 := by intro h; rw [h, dN_gate] at h2; omega
  obtain ⟨-, -, a3, a4, -⟩ := nxt_ok S h1 h0
  exact ⟨a3, a4⟩

theorem IntsAt.at_ {w : World} {b off n k : Nat} {xs : List Int} {x : Int} (h : IntsAt w (some ⟨b, off, none⟩) n xs) (hx : xs[k]? = some x) : w.cell? ⟨b, off + k, none⟩ = some (.int .i64 x) ∧ b < w.heap.size := by
  have hk : k < n := by rw [← h.len]; exact (List.getElem?_eq_some_iff.1 hx).1
  obtain ⟨x', b', off', HX, hA, hb, hc⟩ := h.get hk
  injection hA with hA; injection hA with e1 e2; subst e1 e2
  have h1 := HX.out
  rw [hx] at h1; injection h1 with h1; subst h1
  exact ⟨hc, hb⟩
/-- How the copy and the slides lie while a hole moves. -/
structure MHo (w0 w : World) (B M G cG n : Nat) (W D : Int) (v : Value) (i : Nat) (gs : List Int) (l : List (Nat × Nat)) : Prop where
  gg : w.ownsRow 0 3 1 (.slice (some ⟨G, 0, none⟩) n cG) n (gs.map (Value.int .i64))
  mm : Whole w M 25 [.int .i64 W, .int .i64 D, .slice (some ⟨G, 0, none⟩) n cG]
  ss : w.ownsRow B 62 2 v i (slc l).flatten
  gM : G ≠ M
  gB : G < B
  mB : M < B
  wG : w0.heap.size ≤ G
  bs : B ≤ w.heap.size
  bel : Below w0.heap.size w0 w
theorem MHo.below {w0 w w' : World} {B M G cG n i : Nat} {W D : Int} {v : Value} {gs : List Int} {l : List (Nat × Nat)} (h : MHo w0 w B M G cG n W D v i gs l) (hb : Below w.heap.size w w') : MHo w0 w' B M G cG n W D v i gs l :=
  ⟨own_keep h.gg hb, h.mm.below hb, own_keep h.ss hb, h.gM, h.gB, h.mB, h.wG, Nat.le_trans h.bs hb.size, below_next h.bel hb⟩
theorem MHo.push {w0 w w' : World} {B M G cG n i i' : Nat} {W D : Int} {v v' : Value} {gs : List Int} {l l' : List (Nat × Nat)} (h : MHo w0 w B M G cG n W D v i gs l) (hb : Below B w w') (ho : w'.ownsRow B 62 2 v' i' (slc l').flatten) : MHo w0 w' B M G cG n W D v' i' gs l' :=
  ⟨ownG_blk h.gg (hb.block G h.gB), h.mm.belowN hb h.mB, ho, h.gM, h.gB, h.mB, h.wG, Nat.le_trans h.bs hb.size, h.bel.trans (hb.mono (Nat.le_trans h.wG (Nat.le_of_lt h.gB)))⟩
theorem ownSl_off {w : World} {base n : Nat} {v : Value} {e : TypeId} {sz : Nat} {vs : List Value} (h : w.ownsRow base e sz v n vs) {p : Addr} (hp : p.block < base) (u : Value) : (w.setCell p u).ownsRow base e sz v n vs := by
  refine ⟨h.1, ?_⟩
  rcases h.2 with h2 | ⟨g', cap, cur, hv, hg, hcur, h1⟩
  · exact .inl h2
  · exact .inr ⟨g', cap, cur, hv, hg, (Below.heap_setCell w p u g' (by omega)).trans hcur, h1⟩
theorem MHo.put {w0 w : World} {B M G cG n i : Nat} {W D : Int} {v : Value} {gs : List Int} {l : List (Nat × Nat)} (h : MHo w0 w B M G cG n W D v i gs l) (k : Nat) (z : Int) : MHo w0 (w.setCell ⟨G, k, none⟩ (.int .i64 z)) B M G cG n W D v i (gs.set k z) l :=
  ⟨own_set h.gg z, h.mm.far (p := ⟨G, k, none⟩) (by show M ≠ G; exact fun e => h.gM e.symm) _, ownSl_off h.ss (p := ⟨G, k, none⟩) h.gB _, h.gM, h.gB, h.mB, h.wG, by simp [World.setCell]; exact h.bs, h.bel.setCell (p := ⟨G, k, none⟩) h.wG _⟩

set_option maxRecDepth 100000 in
set_option maxHeartbeats 8000000 in
theorem holeSlides_any (W D n : Nat) (A : Option Addr) (c : Nat) (g : List Int) (f : Nat) (P : Option Addr) (cP : Nat) (w : World) (h : HallAt w W D n A c g) (N : Near W n g f) (hP : IntsAt w P (dN W f + 1) (wayI W f (dN W f + 1))) (hcP : dN W f + 1 ≤ cP ∧ cP ≤ 9223372036854775807) :
    Calls Tryz.prog 35 #[.agg #[.int .i64 W, .int .i64 D, .slice A n c], .slice P (dN W f + 1) cP] w (SLI w (slW W f (dN W f))) := by
  have hn := h.shp.n12
  have S := h.shp
  have hX1 := Whole.new w 25 [.int .i64 W, .int .i64 D, .slice A n c]
  have hB1 : Below w.heap.size w (w.alloc (.cells #[.int .i64 W, .int .i64 D, .slice A n c] 25)) := (Below.refl _ _).alloc (Nat.le_refl _) _
  have H := Lib.hid h
  have HPP := Lib.hid hP
  have HN := Lib.hid N
  have hfn := N.lt
  obtain ⟨d, hd⟩ : ∃ d, Hid (d = dN W f) := ⟨_, rfl⟩
  have hd5 : d ≤ 5 := by rw [hd.out]; exact dN_le S hfn
  rw [← hd.out] at HPP hcP ⊢
  have hl := h.ints.len
  clear h hP N
  have HGL := Lib.hid hl
  clear hl
  obtain ⟨Q, HQ⟩ : ∃ Q, Hid (Q = w.heap.size) := ⟨_, rfl⟩
  obtain ⟨y0, b, off, HY, rfl, hbl, hpc0⟩ := (HPP.out.below hB1).get (k := 0) (by omega)
  obtain rfl : y0 = (f : Int) := by have h1 := HY.out; rw [wayI_get (by omega)] at h1; injection h1 with h1; exact h1.symm
  obtain ⟨z0, b2, off2, HZ, rfl, hbl2, hgc0⟩ := (H.out.below hB1).ints.get hfn
  obtain rfl : z0 = 0 := by have h1 := HZ.out; rw [HN.out.free] at h1; injection h1 with h1; exact h1.symm
  simp only [Nat.add_zero] at hpc0
  go_enter Tryz.func35, Tryz.ntmps35
  go_wp2
  rw [← HQ.out] at hX1 ⊢
  generalize w.alloc (.cells #[.int .i64 W, .int .i64 D, .slice (some ⟨b2, off2, none⟩) n c] 25) = w1 at *
  have x0 : w1.cell? ⟨Q, 0, none⟩ = some (.int .i64 W) := hX1.cell 0
  have x1 : w1.cell? ⟨Q, 1, none⟩ = some (.int .i64 D) := hX1.cell 1
  have x2 : w1.cell? ⟨Q, 2, none⟩ = some (.slice (some ⟨b2, off2, none⟩) n c) := hX1.cell 2
  have hx2 := hX1
  have hde : ((d : Int) + 1 == 0) = false := by rw [beq_eq_false_iff_ne]; omega
  refine wp_region_held_drew (S := (fun w' => w'.cell? ⟨Q, 0, none⟩ = some (.int .i64 W) ∧ w'.cell? ⟨Q, 1, none⟩ = some (.int .i64 D) ∧ w'.cell? ⟨Q, 2, none⟩ = some (.slice (some ⟨b2, off2, none⟩) n c) ∧ w'.cell? ⟨b, off, none⟩ = some (.int .i64 (f : Int)) ∧ w'.cell? ⟨b2, off2 + f, none⟩ = some (.int .i64 0))) (by kernel_rfl) ?_ (fun hHeld => ?_)
  · (try dsimp only); (first | exact ⟨x0, x1, x2, hpc0, hgc0⟩ | exact ⟨hX4.cell 0, hX4.cell 1, hX4.cell 2, p4, g4⟩ | exact ⟨hX3.cell 0, hX3.cell 1, hX3.cell 2, p3, g3⟩)
  refine wpAnyH_take (i := 0) (v := ?vq1_0_1) (by simp only [List.getElem?_toArray, List.getElem?_cons_zero]; rfl) (by kernel_rfl) (by kernel_rfl) (by kernel_rfl) (by exact fun _ _ _ h => h) (Or.inl ⟨by rfl, ?hq1_0_1⟩) hHeld ?rq1_0_1
  case hq1_0_1 => (intro w hSw; (try dsimp only at hSw); go_simp; (try with_reducible rfl))
  try simp only [put_laws]
  refine wpAnyH_ready (rs := [1]) (by kernel_rfl) (by simp) ?_
  refine AllReadyH.cons (by simp only [List.getElem?_toArray, List.getElem?_cons_succ, List.getElem?_cons_zero]; rfl) (fun K hK => ?_) AllReadyH.nil
  go_simp
  (refine (hallValid_any W D (some ⟨b2, off2, none⟩) n c g _ (by omega) (H.out.ints.below (hB1.drew))).mono ?_; rintro e w3 ⟨rfl, hb3⟩; rw [H.out.ok]; have hX3 := (Whole.drew hX1).below hb3; have hB3 := below_next hB1.drew hb3; have p3 := (hb3.cell (p := ⟨b, off, none⟩) hbl).trans hpc0; have g3 := (hb3.cell (p := ⟨b2, off2 + f, none⟩) hbl2).trans hgc0)
  refine hK.out _ _ ?_ (fun hHeld => ?_)
  · (try dsimp only); (first | exact ⟨x0, x1, x2, hpc0, hgc0⟩ | exact ⟨hX4.cell 0, hX4.cell 1, hX4.cell 2, p4, g4⟩ | exact ⟨hX3.cell 0, hX3.cell 1, hX3.cell 2, p3, g3⟩)
  clear hK K
  try simp only [put_laws]
  refine wpAnyH_take (i := 2) (v := ?vq1_2_3) (by simp only [List.getElem?_toArray, List.getElem?_cons_succ, List.getElem?_cons_zero]; rfl) (by kernel_rfl) (by kernel_rfl) (by kernel_rfl) (by exact fun _ _ _ h => h) (Or.inl ⟨by rfl, ?hq1_2_3⟩) hHeld ?rq1_2_3
  case hq1_2_3 => (intro w hSw; (try dsimp only at hSw); go_simp; (try with_reducible rfl))
  try simp only [put_laws]
  refine wpAnyH_take (i := 3) (v := ?vq1_3_4) (by simp only [List.getElem?_toArray, List.getElem?_cons_succ, List.getElem?_cons_zero]; rfl) (by kernel_rfl) (by kernel_rfl) (by kernel_rfl) (by exact fun _ _ _ h => h) (Or.inl ⟨by rfl, ?hq1_3_4⟩) hHeld ?rq1_3_4
  case hq1_3_4 => (intro w hSw; (try dsimp only at hSw); go_simp; (try with_reducible rfl))
  try simp only [put_laws]
  refine wpAnyH_take (i := 4) (v := ?vq1_4_5) (by simp only [List.getElem?_toArray, List.getElem?_cons_succ, List.getElem?_cons_zero]; rfl) (by kernel_rfl) (by kernel_rfl) (by kernel_rfl) (by exact fun _ _ _ h => h) (Or.inl ⟨by rfl, ?hq1_4_5⟩) hHeld ?rq1_4_5
  case hq1_4_5 => (intro w hSw; (try dsimp only at hSw); go_simp; (try with_reducible rfl))
  try simp only [put_laws]
  refine wpAnyH_take (i := 5) (v := ?vq1_5_6) (by simp only [List.getElem?_toArray, List.getElem?_cons_succ, List.getElem?_cons_zero]; rfl) (by kernel_rfl) (by kernel_rfl) (by kernel_rfl) (by exact fun _ _ _ h => h) (Or.inl ⟨by rfl, ?hq1_5_6⟩) hHeld ?rq1_5_6
  case hq1_5_6 => (intro w hSw; (try dsimp only at hSw); go_simp; (try with_reducible rfl))
  try simp only [put_laws]
  refine wpAnyH_take (i := 6) (v := ?vq1_6_7) (by simp only [List.getElem?_toArray, List.getElem?_cons_succ, List.getElem?_cons_zero]; rfl) (by kernel_rfl) (by kernel_rfl) (by kernel_rfl) (by exact fun _ _ _ h => h) (Or.inl ⟨by rfl, ?hq1_6_7⟩) hHeld ?rq1_6_7
  case hq1_6_7 => (intro w hSw; (try dsimp only at hSw); go_simp; (try with_reducible rfl))
  try simp only [put_laws]
  refine wpAnyH_take (i := 7) (v := ?vq1_7_8) (by simp only [List.getElem?_toArray, List.getElem?_cons_succ, List.getElem?_cons_zero]; rfl) (by kernel_rfl) (by kernel_rfl) (by kernel_rfl) (by exact fun _ _ _ h => h) (Or.inl ⟨by rfl, ?hq1_7_8⟩) hHeld ?rq1_7_8
  case hq1_7_8 => (intro w hSw; (try dsimp only at hSw); go_simp; (try with_reducible rfl))
  try simp only [put_laws]
  refine wpAnyH_take (i := 8) (v := ?vq1_8_9) (by simp only [List.getElem?_toArray, List.getElem?_cons_succ, List.getElem?_cons_zero]; rfl) (by kernel_rfl) (by kernel_rfl) (by kernel_rfl) (by exact fun _ _ _ h => h) (Or.inl ⟨by rfl, ?hq1_8_9⟩) hHeld ?rq1_8_9
  case hq1_8_9 => (intro w hSw; (try dsimp only at hSw); go_simp; (try with_reducible rfl))
  try simp only [put_laws]
  refine wpAnyH_take (i := 9) (v := ?vq1_9_10) (by simp only [List.getElem?_toArray, List.getElem?_cons_succ, List.getElem?_cons_zero]; rfl) (by kernel_rfl) (by kernel_rfl) (by kernel_rfl) (by exact fun _ _ _ h => h) (Or.inl ⟨by rfl, ?hq1_9_10⟩) hHeld ?rq1_9_10
  case hq1_9_10 => (intro w hSw; (try dsimp only at hSw); go_simp; (try with_reducible rfl))
  try simp only [put_laws]
  refine wpAnyH_take (i := 10) (v := ?vq1_10_11) (by simp only [List.getElem?_toArray, List.getElem?_cons_succ, List.getElem?_cons_zero]; rfl) (by kernel_rfl) (by kernel_rfl) (by kernel_rfl) (by exact fun _ _ _ h => h) (Or.inl ⟨by rfl, ?hq1_10_11⟩) hHeld ?rq1_10_11
  case hq1_10_11 => (intro w hSw; (try dsimp only at hSw); go_simp; (try with_reducible rfl))
  try simp only [put_laws]
  refine wpAnyH_take (i := 11) (v := ?vq1_11_12) (by simp only [List.getElem?_toArray, List.getElem?_cons_succ, List.getElem?_cons_zero]; rfl) (by kernel_rfl) (by kernel_rfl) (by kernel_rfl) (by exact fun _ _ _ h => h) (Or.inl ⟨by rfl, ?hq1_11_12⟩) hHeld ?rq1_11_12
  case hq1_11_12 => (intro w hSw; (try dsimp only at hSw); go_simp; (try with_reducible rfl))
  try simp only [put_laws]
  refine wpAnyH_take (i := 12) (v := ?vq1_12_13) (by simp only [List.getElem?_toArray, List.getElem?_cons_succ, List.getElem?_cons_zero]; rfl) (by kernel_rfl) (by kernel_rfl) (by kernel_rfl) (by exact fun _ _ _ h => h) (Or.inl ⟨by rfl, ?hq1_12_13⟩) hHeld ?rq1_12_13
  case hq1_12_13 => (intro w hSw; (try dsimp only at hSw); go_simp; (try with_reducible rfl))
  try simp only [put_laws]
  refine wpAnyH_ready (rs := [13]) (by kernel_rfl) (by simp) ?_
  refine AllReadyH.cons (by simp only [List.getElem?_toArray, List.getElem?_cons_succ, List.getElem?_cons_zero]; rfl) (fun K hK => ?_) AllReadyH.nil
  go_simp
  (refine (hasCell_any W D (some ⟨b2, off2, none⟩) n c f _ true (by simp; omega)).mono ?_; rintro e w4 ⟨rfl, hb4⟩; have hX4 := hX3.below hb4; have hB4 := below_next hB3 hb4; have p4 := (hb4.cell (p := ⟨b, off, none⟩) (Nat.lt_of_lt_of_le hbl hb3.size)).trans p3; have g4 := (hb4.cell (p := ⟨b2, off2 + f, none⟩) (Nat.lt_of_lt_of_le hbl2 hb3.size)).trans g3)
  refine hK.out _ _ ?_ (fun hHeld => ?_)
  · (try dsimp only); (first | exact ⟨x0, x1, x2, hpc0, hgc0⟩ | exact ⟨hX4.cell 0, hX4.cell 1, hX4.cell 2, p4, g4⟩ | exact ⟨hX3.cell 0, hX3.cell 1, hX3.cell 2, p3, g3⟩)
  clear hK K
  try simp only [put_laws]
  refine wpAnyH_take (i := 14) (v := ?vq1_14_15) (by simp only [List.getElem?_toArray, List.getElem?_cons_succ, List.getElem?_cons_zero]; rfl) (by kernel_rfl) (by kernel_rfl) (by kernel_rfl) (by exact fun _ _ _ h => h) (Or.inl ⟨by rfl, ?hq1_14_15⟩) hHeld ?rq1_14_15
  case hq1_14_15 => (intro w hSw; (try dsimp only at hSw); go_simp; (try with_reducible rfl))
  try simp only [put_laws]
  refine wpAnyH_take (i := 15) (v := ?vq1_15_16) (by simp only [List.getElem?_toArray, List.getElem?_cons_succ, List.getElem?_cons_zero]; rfl) (by kernel_rfl) (by kernel_rfl) (by kernel_rfl) (by exact fun _ _ _ h => h) (Or.inl ⟨by rfl, ?hq1_15_16⟩) hHeld ?rq1_15_16
  case hq1_15_16 => (intro w hSw; (try dsimp only at hSw); go_simp; (try with_reducible rfl))
  try simp only [put_laws]
  refine wpAnyH_take (i := 16) (v := ?vq1_16_17) (by simp only [List.getElem?_toArray, List.getElem?_cons_succ, List.getElem?_cons_zero]; rfl) (by kernel_rfl) (by kernel_rfl) (by kernel_rfl) (by exact fun _ _ _ h => h) (Or.inl ⟨by rfl, ?hq1_16_17⟩) hHeld ?rq1_16_17
  case hq1_16_17 => (intro w hSw; (try dsimp only at hSw); go_simp; (try with_reducible rfl))
  try simp only [put_laws]
  refine wpAnyH_take (i := 17) (v := ?vq1_17_18) (by simp only [List.getElem?_toArray, List.getElem?_cons_succ, List.getElem?_cons_zero]; rfl) (by kernel_rfl) (by kernel_rfl) (by kernel_rfl) (by exact fun _ _ _ h => h) (Or.inl ⟨by rfl, ?hq1_17_18⟩) hHeld ?rq1_17_18
  case hq1_17_18 => (intro w hSw; (try dsimp only at hSw); go_simp; (try with_reducible rfl))
  try simp only [put_laws]
  refine wpAnyH_take (i := 18) (v := ?vq1_18_19) (by simp only [List.getElem?_toArray, List.getElem?_cons_succ, List.getElem?_cons_zero]; rfl) (by kernel_rfl) (by kernel_rfl) (by kernel_rfl) (by exact fun _ _ _ h => h) (Or.inl ⟨by rfl, ?hq1_18_19⟩) hHeld ?rq1_18_19
  case hq1_18_19 => (intro w hSw; (try dsimp only at hSw); go_simp; (try with_reducible rfl))
  try simp only [put_laws]
  refine wpAnyH_take (i := 19) (v := ?vq1_19_20) (by simp only [List.getElem?_toArray, List.getElem?_cons_succ, List.getElem?_cons_zero]; rfl) (by kernel_rfl) (by kernel_rfl) (by kernel_rfl) (by exact fun _ _ _ h => h) (Or.inl ⟨by rfl, ?hq1_19_20⟩) hHeld ?rq1_19_20
  case hq1_19_20 => (intro w hSw; (try dsimp only at hSw); go_simp; (try with_reducible rfl))
  try simp only [put_laws]
  refine wpAnyH_take (i := 20) (v := ?vq1_20_21) (by simp only [List.getElem?_toArray, List.getElem?_cons_succ, List.getElem?_cons_zero]; rfl) (by kernel_rfl) (by kernel_rfl) (by kernel_rfl) (by exact fun _ _ _ h => h) (Or.inl ⟨by rfl, ?hq1_20_21⟩) hHeld ?rq1_20_21
  case hq1_20_21 => (intro w hSw; (try dsimp only at hSw); go_simp; (try with_reducible rfl))
  try simp only [put_laws]
  refine wpAnyH_take (i := 21) (v := ?vq1_21_22) (by simp only [List.getElem?_toArray, List.getElem?_cons_succ, List.getElem?_cons_zero]; rfl) (by kernel_rfl) (by kernel_rfl) (by kernel_rfl) (by exact fun _ _ _ h => h) (Or.inl ⟨by rfl, ?hq1_21_22⟩) hHeld ?rq1_21_22
  case hq1_21_22 => (intro w hSw; (try dsimp only at hSw); go_simp; (try with_reducible rfl))
  try simp only [put_laws]
  refine wpAnyH_take (i := 22) (v := ?vq1_22_23) (by simp only [List.getElem?_toArray, List.getElem?_cons_succ, List.getElem?_cons_zero]; rfl) (by kernel_rfl) (by kernel_rfl) (by kernel_rfl) (by exact fun _ _ _ h => h) (Or.inl ⟨by rfl, ?hq1_22_23⟩) hHeld ?rq1_22_23
  case hq1_22_23 => (intro w hSw; (try dsimp only at hSw); go_simp; (try with_reducible rfl))
  try simp only [put_laws]
  refine wpAnyH_take (i := 23) (v := ?vq1_23_24) (by simp only [List.getElem?_toArray, List.getElem?_cons_succ, List.getElem?_cons_zero]; rfl) (by kernel_rfl) (by kernel_rfl) (by kernel_rfl) (by exact fun _ _ _ h => h) (Or.inl ⟨by rfl, ?hq1_23_24⟩) hHeld ?rq1_23_24
  case hq1_23_24 => (intro w hSw; (try dsimp only at hSw); go_simp; (try with_reducible rfl))
  try simp only [put_laws]
  refine wpAnyH_take (i := 24) (v := ?vq1_24_25) (by simp only [List.getElem?_toArray, List.getElem?_cons_succ, List.getElem?_cons_zero]; rfl) (by kernel_rfl) (by kernel_rfl) (by kernel_rfl) (by exact fun _ _ _ h => h) (Or.inl ⟨by rfl, ?hq1_24_25⟩) hHeld ?rq1_24_25
  case hq1_24_25 => (intro w hSw; (try dsimp only at hSw); go_simp; (try with_reducible rfl))
  try simp only [put_laws]
  refine wpAnyH_take (i := 25) (v := ?vq1_25_26) (by simp only [List.getElem?_toArray, List.getElem?_cons_succ, List.getElem?_cons_zero]; rfl) (by kernel_rfl) (by kernel_rfl) (by kernel_rfl) (by exact fun _ _ _ h => h) (Or.inl ⟨by rfl, ?hq1_25_26⟩) hHeld ?rq1_25_26
  case hq1_25_26 => (intro w hSw; (try dsimp only at hSw); go_simp; (try with_reducible rfl))
  try simp only [put_laws]
  refine wpAnyH_done (by kernel_rfl) ?_ _
  clear hde hHeld x0 x1 x2 hpc0 hgc0 p3 g3 p4 g4 hX1 hB1 hX3 hB3 hb3 hb4 hx2 HY HZ
  go_wp2
  go_loopw [5] (fun t wr => ∃ j : Nat, j ≤ d ∧ t = .int .i64 ((j : Int) + 1) ∧ Whole wr Q 25 [.int .i64 W, .int .i64 D, .slice (some ⟨b2, off2, none⟩) n c] ∧ Below w.heap.size w wr) (fun t _ => d + 1 - (intOf t).toNat)
  case atStart => exact ⟨0, by omega, rfl, hX4, hB4⟩
  case round =>
    obtain ⟨j, hj, rfl, hX, hB⟩ := hrel
    clear hX4 hB4
    by_cases hlt : j < d
    · have hjd : j < dN W f := by rw [← hd.out]; exact hlt
      obtain ⟨hst1, hst2⟩ := pcN_step S hfn hjd
      have hyn := (pcN_ok S hfn j (by omega)).1
      have hxn := (pcN_ok S hfn (j + 1) (by omega)).1
      obtain ⟨py, hbl⟩ := (HPP.out.below hB).at_ (wayI_get (W := W) (c := f) (show j < d + 1 by omega))
      obtain ⟨px, -⟩ := (HPP.out.below hB).at_ (wayI_get (W := W) (c := f) (show j + 1 < d + 1 by omega))
      obtain ⟨y, hy⟩ : ∃ y, Hid (y = pcN W f j) := ⟨_, rfl⟩
      obtain ⟨x, hx⟩ : ∃ x, Hid (x = pcN W f (j + 1)) := ⟨_, rfl⟩
      rw [← hy.out, ← hx.out] at hst1
      rw [← hy.out] at py hyn
      rw [← hx.out] at px hxn
      have HST := Lib.hid hst1
      have x0 : wr.cell? ⟨Q, 0, none⟩ = some (.int .i64 W) := hX.cell 0
      have x1 : wr.cell? ⟨Q, 1, none⟩ = some (.int .i64 D) := hX.cell 1
      have x2 : wr.cell? ⟨Q, 2, none⟩ = some (.slice (some ⟨b2, off2, none⟩) n c) := hX.cell 2
      have hs1 : IntKind.i64.wrap (j : Int) = (j : Int) := IntWalk.i64_in _ (by omega)
      have hs2 : ((j : Int) + 1 - 1) = (j : Int) := by omega
      have hs4 : (j : Int) < (d : Int) + 1 := by omega
      have hs5 : (j : Int) < (d : Int) := by omega
      have hs6 : (j : Int) + 1 < (d : Int) + 1 := by omega
      have hs7 : (0 : Int) ≤ (j : Int) + 1 := by omega
      have hs3 : ((j : Int) + 1).toNat = j + 1 := by omega
      clear hst1 hst2 hjd
      go_wp2
      refine wp_region_held_drew (S := (fun w' => w'.cell? ⟨Q, 0, none⟩ = some (.int .i64 W) ∧ w'.cell? ⟨Q, 1, none⟩ = some (.int .i64 D) ∧ w'.cell? ⟨Q, 2, none⟩ = some (.slice (some ⟨b2, off2, none⟩) n c) ∧ w'.cell? ⟨b, off + j, none⟩ = some (.int .i64 (y : Int)) ∧ w'.cell? ⟨b, off + (j + 1), none⟩ = some (.int .i64 (x : Int)))) (by kernel_rfl) ?_ (fun hHeld => ?_)
      · (try dsimp only); (first | exact ⟨x0, x1, x2, py, px⟩ | exact ⟨hX7.cell 0, hX7.cell 1, hX7.cell 2, (hb7.cell (p := ⟨b, off + j, none⟩) hbl).trans py, (hb7.cell (p := ⟨b, off + (j + 1), none⟩) hbl).trans px⟩)
      refine wpAnyH_take (i := 0) (v := ?vq2_0_1) (by simp only [List.getElem?_toArray, List.getElem?_cons_zero]; rfl) (by kernel_rfl) (by kernel_rfl) (by kernel_rfl) (by exact fun _ _ _ h => h) (Or.inl ⟨by rfl, ?hq2_0_1⟩) hHeld ?rq2_0_1
      case hq2_0_1 => (intro w hSw; (try dsimp only at hSw); go_simp; (try with_reducible rfl))
      try simp only [put_laws]
      refine wpAnyH_take (i := 1) (v := ?vq2_1_2) (by simp only [List.getElem?_toArray, List.getElem?_cons_succ, List.getElem?_cons_zero]; rfl) (by kernel_rfl) (by kernel_rfl) (by kernel_rfl) (by exact fun _ _ _ h => h) (Or.inl ⟨by rfl, ?hq2_1_2⟩) hHeld ?rq2_1_2
      case hq2_1_2 => (intro w hSw; (try dsimp only at hSw); go_simp; (try with_reducible rfl))
      try simp only [put_laws]
      refine wpAnyH_take (i := 2) (v := ?vq2_2_3) (by simp only [List.getElem?_toArray, List.getElem?_cons_succ, List.getElem?_cons_zero]; rfl) (by kernel_rfl) (by kernel_rfl) (by kernel_rfl) (by exact fun _ _ _ h => h) (Or.inl ⟨by rfl, ?hq2_2_3⟩) hHeld ?rq2_2_3
      case hq2_2_3 => (intro w hSw; (try dsimp only at hSw); go_simp; (try with_reducible rfl))
      try simp only [put_laws]
      refine wpAnyH_take (i := 3) (v := ?vq2_3_4) (by simp only [List.getElem?_toArray, List.getElem?_cons_succ, List.getElem?_cons_zero]; rfl) (by kernel_rfl) (by kernel_rfl) (by kernel_rfl) (by exact fun _ _ _ h => h) (Or.inl ⟨by rfl, ?hq2_3_4⟩) hHeld ?rq2_3_4
      case hq2_3_4 => (intro w hSw; (try dsimp only at hSw); go_simp; (try with_reducible rfl))
      try simp only [put_laws]
      refine wpAnyH_take (i := 4) (v := ?vq2_4_5) (by simp only [List.getElem?_toArray, List.getElem?_cons_succ, List.getElem?_cons_zero]; rfl) (by kernel_rfl) (by kernel_rfl) (by kernel_rfl) (by exact fun _ _ _ h => h) (Or.inl ⟨by rfl, ?hq2_4_5⟩) hHeld ?rq2_4_5
      case hq2_4_5 => (intro w hSw; (try dsimp only at hSw); go_simp; (try with_reducible rfl))
      try simp only [put_laws]
      refine wpAnyH_take (i := 5) (v := ?vq2_5_6) (by simp only [List.getElem?_toArray, List.getElem?_cons_succ, List.getElem?_cons_zero]; rfl) (by kernel_rfl) (by kernel_rfl) (by kernel_rfl) (by exact fun _ _ _ h => h) (Or.inl ⟨by rfl, ?hq2_5_6⟩) hHeld ?rq2_5_6
      case hq2_5_6 => (intro w hSw; (try dsimp only at hSw); go_simp; (try with_reducible rfl))
      try simp only [put_laws]
      refine wpAnyH_take (i := 6) (v := ?vq2_6_7) (by simp only [List.getElem?_toArray, List.getElem?_cons_succ, List.getElem?_cons_zero]; rfl) (by kernel_rfl) (by kernel_rfl) (by kernel_rfl) (by exact fun _ _ _ h => h) (Or.inl ⟨by rfl, ?hq2_6_7⟩) hHeld ?rq2_6_7
      case hq2_6_7 => (intro w hSw; (try dsimp only at hSw); go_simp; (try with_reducible rfl))
      try simp only [put_laws]
      refine wpAnyH_take (i := 7) (v := ?vq2_7_8) (by simp only [List.getElem?_toArray, List.getElem?_cons_succ, List.getElem?_cons_zero]; rfl) (by kernel_rfl) (by kernel_rfl) (by kernel_rfl) (by exact fun _ _ _ h => h) (Or.inl ⟨by rfl, ?hq2_7_8⟩) hHeld ?rq2_7_8
      case hq2_7_8 => (intro w hSw; (try dsimp only at hSw); go_simp; (try with_reducible rfl))
      try simp only [put_laws]
      refine wpAnyH_take (i := 8) (v := ?vq2_8_9) (by simp only [List.getElem?_toArray, List.getElem?_cons_succ, List.getElem?_cons_zero]; rfl) (by kernel_rfl) (by kernel_rfl) (by kernel_rfl) (by exact fun _ _ _ h => h) (Or.inl ⟨by rfl, ?hq2_8_9⟩) hHeld ?rq2_8_9
      case hq2_8_9 => (intro w hSw; (try dsimp only at hSw); go_simp; (try with_reducible rfl))
      try simp only [put_laws]
      refine wpAnyH_take (i := 9) (v := ?vq2_9_10) (by simp only [List.getElem?_toArray, List.getElem?_cons_succ, List.getElem?_cons_zero]; rfl) (by kernel_rfl) (by kernel_rfl) (by kernel_rfl) (by exact fun _ _ _ h => h) (Or.inl ⟨by rfl, ?hq2_9_10⟩) hHeld ?rq2_9_10
      case hq2_9_10 => (intro w hSw; (try dsimp only at hSw); go_simp; (try with_reducible rfl))
      try simp only [put_laws]
      refine wpAnyH_ready (rs := [10]) (by kernel_rfl) (by simp) ?_
      refine AllReadyH.cons (by simp only [List.getElem?_toArray, List.getElem?_cons_succ, List.getElem?_cons_zero]; rfl) (fun K hK => ?_) AllReadyH.nil
      go_simp
      (refine (cellsApart_any W D n (some ⟨b2, off2, none⟩) c g y x _ (H.out.below hB.drew) hyn hxn).mono ?_; rintro e w7 ⟨rfl, hb7⟩; rw [HST.out]; have hX7 := (Whole.drew hX).below hb7; have hB7 := below_next hB.drew hb7)
      refine hK.out _ _ ?_ (fun hHeld => ?_)
      · (try dsimp only); (first | exact ⟨x0, x1, x2, py, px⟩ | exact ⟨hX7.cell 0, hX7.cell 1, hX7.cell 2, (hb7.cell (p := ⟨b, off + j, none⟩) hbl).trans py, (hb7.cell (p := ⟨b, off + (j + 1), none⟩) hbl).trans px⟩)
      clear hK K
      try simp only [put_laws]
      refine wpAnyH_take (i := 11) (v := ?vq2_11_12) (by simp only [List.getElem?_toArray, List.getElem?_cons_succ, List.getElem?_cons_zero]; rfl) (by kernel_rfl) (by kernel_rfl) (by kernel_rfl) (by exact fun _ _ _ h => h) (Or.inl ⟨by rfl, ?hq2_11_12⟩) hHeld ?rq2_11_12
      case hq2_11_12 => (intro w hSw; (try dsimp only at hSw); go_simp; (try with_reducible rfl))
      try simp only [put_laws]
      refine wpAnyH_done (by kernel_rfl) ?_ _
      clear hHeld x0 x1 x2 py px hs1 hs2 hs3
      go_wp2
      go_roundw
      case rel => exact ⟨j + 1, by omega, by go_num, hX7, hB7⟩
      case measure => simp [intOf]; omega
    · obtain rfl : j = d := by omega
      have x0 : wr.cell? ⟨Q, 0, none⟩ = some (.int .i64 W) := hX.cell 0
      have x1 : wr.cell? ⟨Q, 1, none⟩ = some (.int .i64 D) := hX.cell 1
      have x2 : wr.cell? ⟨Q, 2, none⟩ = some (.slice (some ⟨b2, off2, none⟩) n c) := hX.cell 2
      go_wp2_with fail
      refine (copyHall_any W D n (some ⟨b2, off2, none⟩) c g _ (H.out.below hB)).mono ?_; rintro e w5 ⟨G, cG, rfl, hO, hb5⟩
      have hM0 := Whole.new w5 25 [.int .i64 W, .int .i64 D, .slice (some ⟨G, 0, none⟩) n cG]
      obtain ⟨M, hM⟩ : ∃ M, Hid (M = w5.heap.size) := ⟨_, rfl⟩
      have hGl := hO.lt G rfl
      have hB5 := below_next hB hb5
      have hH0 : MHo w (w5.alloc (.cells #[.int .i64 W, .int .i64 D, .slice (some ⟨G, 0, none⟩) n cG] 25)) (M + 1) M G cG n W D (.slice none 0 0) 0 (hst W f g 0) (slW W f 0) :=
        ⟨own_keep (Joins.ownsRow_le hO (Nat.zero_le _)) ((Below.refl _ _).alloc (Nat.le_refl _) _), by rw [hM.out]; exact hM0, ownNil _ _ _ _, by rw [hM.out]; omega, by rw [hM.out]; omega, by omega, by have := hB.size; omega, by rw [hM.out]; simp, hB5.alloc hB5.size _⟩
      clear hM0 hO hb5 hB5 hGl hB hX x0 x1 x2
      go_wp2
      rw [← hM.out]
      generalize w5.alloc (.cells #[.int .i64 W, .int .i64 D, .slice (some ⟨G, 0, none⟩) n cG] 25) = w6 at *
      go_loopw [6, 8] (fun v t wr => ∃ i : Nat, i ≤ j ∧ t = .int .i64 ((i : Int) + 1) ∧ (∃ B cU, v = .slice B i cU) ∧ Hid (MHo w wr (M + 1) M G cG n W D v i (hst W f g i) (slW W f i))) (fun _ t _ => j + 1 - (intOf t).toNat)
      case atStart => exact ⟨0, by omega, rfl, ⟨_, _, rfl⟩, Lib.hid hH0⟩
      case round =>
        obtain ⟨i, hi, rfl, ⟨B, cU, rfl⟩, HM⟩ := hrel
        clear hH0
        by_cases hlt2 : i < j
        · have hid : i < dN W f := by rw [← hd.out]; exact hlt2
          obtain ⟨z, hz1, hz2, -⟩ := hst_car S HGL.out HN.out hid
          have hyn := (pcN_ok S hfn i (by omega)).1
          have hxn := (pcN_ok S hfn (i + 1) (by omega)).1
          have hyx : pcN W f i ≠ pcN W f (i + 1) := by
            have a2 := (pcN_ok S hfn i (by omega)).2
            have b2 := (pcN_ok S hfn (i + 1) (by omega)).2
            intro h; rw [h] at a2; omega
          obtain ⟨py0, hbw0⟩ := HPP.out.at_ (wayI_get (W := W) (c := f) (show i < j + 1 by omega))
          obtain ⟨px0, -⟩ := HPP.out.at_ (wayI_get (W := W) (c := f) (show i + 1 < j + 1 by omega))
          obtain ⟨py, hbl⟩ := (HPP.out.below HM.out.bel).at_ (wayI_get (W := W) (c := f) (show i < j + 1 by omega))
          obtain ⟨px, -⟩ := (HPP.out.below HM.out.bel).at_ (wayI_get (W := W) (c := f) (show i + 1 < j + 1 by omega))
          have HNX : Hid (hst W f g (i + 1) = ((hst W f g i).set (pcN W f i) z).set (pcN W f (i + 1)) 0) := Lib.hid (by show mv _ _ _ = _; unfold mv; simp [hz1])
          have HSL : Hid (slW W f (i + 1) = slW W f i ++ [(pcN W f (i + 1), pcN W f i)]) := Lib.hid (slW_next W f i)
          have gz := ownI_get HM.out.gg hz1
          obtain ⟨y, hy⟩ : ∃ y, Hid (y = pcN W f i) := ⟨_, rfl⟩
          obtain ⟨x, hx⟩ : ∃ x, Hid (x = pcN W f (i + 1)) := ⟨_, rfl⟩
          rw [← hy.out] at py py0 hyn hyx HNX HSL
          rw [← hx.out] at px px0 hxn gz hyx HNX HSL
          have HZX : Hid ((hst W f g i)[x]? = some z) := Lib.hid (by rw [hx.out]; exact hz1)
          have HPY := Lib.hid py0
          have HPX := Lib.hid px0
          have hbwH := Lib.hid hbw0
          clear py0 px0 hbw0
          have hzb : (z != 0) = true := by simpa using hz2
          have m2 : wr.cell? ⟨M, 2, none⟩ = some (.slice (some ⟨G, 0, none⟩) n cG) := HM.out.mm.cell 2
          have hs1 : IntKind.i64.wrap (i : Int) = (i : Int) := IntWalk.i64_in _ (by omega)
          have hs2 : ((i : Int) + 1 - 1) = (i : Int) := by omega
          have hs4 : (i : Int) < (j : Int) + 1 := by omega
          have hs5 : (i : Int) < (j : Int) := by omega
          have hs6 : (i : Int) + 1 < (j : Int) + 1 := by omega
          have hs7 : (0 : Int) ≤ (i : Int) + 1 := by omega
          have hs3 : ((i : Int) + 1).toNat = i + 1 := by omega
          have hxy : x ≠ y := fun h => hyx h.symm
          clear hid hz1 hz2
          go_wp2
          go_quiet (fail)
          have HM1 := Lib.hid (HM.out.below (below_drewN (Below.refl _ _) nq))
          have py1 : (wr.drewN nq).cell? ⟨b, off + i, none⟩ = some (.int .i64 (y : Int)) := py
          have px1 : (wr.drewN nq).cell? ⟨b, off + (i + 1), none⟩ = some (.int .i64 (x : Int)) := px
          have gz1 : (wr.drewN nq).cell? ⟨G, x, none⟩ = some (.int .i64 z) := gz
          have hbl1 : b < (wr.drewN nq).heap.size := hbl
          clear py px gz m2 HM hbl
          generalize wr.drewN nq = wz at *
          go_wp2
          have hB1 := HM1.out.bs
          have hN0 : Whole (wz.drew.alloc (.cells #[.int .i64 (x : Int), .int .i64 (y : Int)] 62)) wz.heap.size 62 [.int .i64 (x : Int), .int .i64 (y : Int)] := Whole.new wz.drew _ _
          have hb0 : Below wz.heap.size wz (wz.drew.alloc (.cells #[.int .i64 (x : Int), .int .i64 (y : Int)] 62)) := (Below.refl _ _).drew.alloc (Nat.le_refl _) _
          have HM2 := Lib.hid (HM1.out.below hb0)
          refine wp_region_held_drew (S := (fun w' => w'.cell? ⟨b, off + i, none⟩ = some (.int .i64 (y : Int)) ∧ w'.cell? ⟨b, off + (i + 1), none⟩ = some (.int .i64 (x : Int)))) (by kernel_rfl) ?_ (fun hHeld => ?_)
          · (try dsimp only); (first | exact ⟨py1, px1⟩ | exact ⟨(hb9.cell (p := ⟨b, off + i, none⟩) hbB).trans py1, (hb9.cell (p := ⟨b, off + (i + 1), none⟩) hbB).trans px1⟩ | exact ⟨(hb0.cell (p := ⟨b, off + i, none⟩) hbl1).trans py1, (hb0.cell (p := ⟨b, off + (i + 1), none⟩) hbl1).trans px1⟩)
          refine wpAnyH_take (i := 0) (v := ?vq3_0_1) (by simp only [List.getElem?_toArray, List.getElem?_cons_zero]; rfl) (by kernel_rfl) (by kernel_rfl) (by kernel_rfl) (by exact fun _ _ _ h => h) (Or.inl ⟨by rfl, ?hq3_0_1⟩) hHeld ?rq3_0_1
          case hq3_0_1 => (intro w hSw; (try dsimp only at hSw); go_simp; (try with_reducible rfl))
          try simp only [put_laws]
          refine wpAnyH_take (i := 1) (v := ?vq3_1_2) (by simp only [List.getElem?_toArray, List.getElem?_cons_succ, List.getElem?_cons_zero]; rfl) (by kernel_rfl) (by kernel_rfl) (by kernel_rfl) (by exact fun _ _ _ h => h) (Or.inl ⟨by rfl, ?hq3_1_2⟩) hHeld ?rq3_1_2
          case hq3_1_2 => (intro w hSw; (try dsimp only at hSw); go_simp; (try with_reducible rfl))
          try simp only [put_laws]
          refine wpAnyH_take (i := 2) (v := ?vq3_2_3) (by simp only [List.getElem?_toArray, List.getElem?_cons_succ, List.getElem?_cons_zero]; rfl) (by kernel_rfl) (by kernel_rfl) (by kernel_rfl) (by exact fun _ _ _ h => h) (Or.inl ⟨by rfl, ?hq3_2_3⟩) hHeld ?rq3_2_3
          case hq3_2_3 => (intro w hSw; (try dsimp only at hSw); go_simp; (try with_reducible rfl))
          try simp only [put_laws]
          refine wpAnyH_take (i := 3) (v := ?vq3_3_4) (by simp only [List.getElem?_toArray, List.getElem?_cons_succ, List.getElem?_cons_zero]; rfl) (by kernel_rfl) (by kernel_rfl) (by kernel_rfl) (by exact fun _ _ _ h => h) (Or.inl ⟨by rfl, ?hq3_3_4⟩) hHeld ?rq3_3_4
          case hq3_3_4 => (intro w hSw; (try dsimp only at hSw); go_simp; (try with_reducible rfl))
          try simp only [put_laws]
          refine wpAnyH_take (i := 4) (v := ?vq3_4_5) (by simp only [List.getElem?_toArray, List.getElem?_cons_succ, List.getElem?_cons_zero]; rfl) (by kernel_rfl) (by kernel_rfl) (by kernel_rfl) (by exact fun _ _ _ h => h) (Or.inl ⟨by rfl, ?hq3_4_5⟩) hHeld ?rq3_4_5
          case hq3_4_5 => (intro w hSw; (try dsimp only at hSw); go_simp; (try with_reducible rfl))
          try simp only [put_laws]
          refine wpAnyH_take (i := 5) (v := ?vq3_5_6) (by simp only [List.getElem?_toArray, List.getElem?_cons_succ, List.getElem?_cons_zero]; rfl) (by kernel_rfl) (by kernel_rfl) (by kernel_rfl) (by exact fun _ _ _ h => h) (Or.inl ⟨by rfl, ?hq3_5_6⟩) hHeld ?rq3_5_6
          case hq3_5_6 => (intro w hSw; (try dsimp only at hSw); go_simp; (try with_reducible rfl))
          try simp only [put_laws]
          refine wpAnyH_take (i := 6) (v := ?vq3_6_7) (by simp only [List.getElem?_toArray, List.getElem?_cons_succ, List.getElem?_cons_zero]; rfl) (by kernel_rfl) (by kernel_rfl) (by kernel_rfl) (by exact fun _ _ _ h => h) (Or.inl ⟨by rfl, ?hq3_6_7⟩) hHeld ?rq3_6_7
          case hq3_6_7 => (intro w hSw; (try dsimp only at hSw); go_simp; (try with_reducible rfl))
          try simp only [put_laws]
          refine wpAnyH_take (i := 7) (v := ?vq3_7_8) (by simp only [List.getElem?_toArray, List.getElem?_cons_succ, List.getElem?_cons_zero]; rfl) (by kernel_rfl) (by kernel_rfl) (by kernel_rfl) (by exact fun _ _ _ h => h) (Or.inl ⟨by rfl, ?hq3_7_8⟩) hHeld ?rq3_7_8
          case hq3_7_8 => (intro w hSw; (try dsimp only at hSw); go_simp; (try with_reducible rfl))
          try simp only [put_laws]
          refine wpAnyH_take (i := 8) (v := ?vq3_8_9) (by simp only [List.getElem?_toArray, List.getElem?_cons_succ, List.getElem?_cons_zero]; rfl) (by kernel_rfl) (by kernel_rfl) (by kernel_rfl) (by exact fun _ _ _ h => h) (Or.inl ⟨by rfl, ?hq3_8_9⟩) hHeld ?rq3_8_9
          case hq3_8_9 => (intro w hSw; (try dsimp only at hSw); go_simp; (try with_reducible rfl))
          try simp only [put_laws]
          refine wpAnyH_take (i := 9) (v := ?vq3_9_10) (by simp only [List.getElem?_toArray, List.getElem?_cons_succ, List.getElem?_cons_zero]; rfl) (by kernel_rfl) (by kernel_rfl) (by kernel_rfl) (by exact fun _ _ _ h => h) (Or.inl ⟨by rfl, ?hq3_9_10⟩) hHeld ?rq3_9_10
          case hq3_9_10 => (intro w hSw; (try dsimp only at hSw); go_simp; (try with_reducible rfl))
          try simp only [put_laws]
          refine wpAnyH_take (i := 10) (v := ?vq3_10_11) (by simp only [List.getElem?_toArray, List.getElem?_cons_succ, List.getElem?_cons_zero]; rfl) (by kernel_rfl) (by kernel_rfl) (by kernel_rfl) (by exact fun _ _ _ h => h) (Or.inl ⟨by rfl, ?hq3_10_11⟩) hHeld ?rq3_10_11
          case hq3_10_11 => (intro w hSw; (try dsimp only at hSw); go_simp; (try with_reducible rfl))
          try simp only [put_laws]
          refine wpAnyH_ready (rs := [11]) (by kernel_rfl) (by simp) ?_
          refine AllReadyH.cons (by simp only [List.getElem?_toArray, List.getElem?_cons_succ, List.getElem?_cons_zero]; rfl) (fun K hK => ?_) AllReadyH.nil
          go_simp
          skip
          refine hK.out _ _ ?_ (fun hHeld => ?_)
          · (try dsimp only); (first | exact ⟨py1, px1⟩ | exact ⟨(hb9.cell (p := ⟨b, off + i, none⟩) hbB).trans py1, (hb9.cell (p := ⟨b, off + (i + 1), none⟩) hbB).trans px1⟩ | exact ⟨(hb0.cell (p := ⟨b, off + i, none⟩) hbl1).trans py1, (hb0.cell (p := ⟨b, off + (i + 1), none⟩) hbl1).trans px1⟩)
          clear hK K
          try simp only [put_laws]
          refine wpAnyH_ready (rs := [12]) (by kernel_rfl) (by simp) ?_
          refine AllReadyH.cons (by simp only [List.getElem?_toArray, List.getElem?_cons_succ, List.getElem?_cons_zero]; rfl) (fun K hK => ?_) AllReadyH.nil
          rw [if_pos (by rfl)]
          (refine wp_pushSl (z := (x, y)) (.tmp 70) (.tmp 81) rfl HM2.out.ss HM2.out.bs hN0 rfl rfl (by omega) ?_; intro g' c' w9 hO9 hg9 hq9; have hb9 : Below (M + 1) wz w9 := (hb0.mono hB1).grown hg9 HM2.out.bs (fun k hk => (HM2.out.ss.lt k hk).1); have hbB : b < M + 1 := (by have := HM2.out.wG; have := HM2.out.gB; have := hbwH.out; omega))
          refine hK.out _ _ ?_ (fun hHeld => ?_)
          · (try dsimp only); (first | exact ⟨py1, px1⟩ | exact ⟨(hb9.cell (p := ⟨b, off + i, none⟩) hbB).trans py1, (hb9.cell (p := ⟨b, off + (i + 1), none⟩) hbB).trans px1⟩ | exact ⟨(hb0.cell (p := ⟨b, off + i, none⟩) hbl1).trans py1, (hb0.cell (p := ⟨b, off + (i + 1), none⟩) hbl1).trans px1⟩)
          clear hK K
          try simp only [put_laws]
          refine wpAnyH_take (i := 13) (v := ?vq3_13_14) (by simp only [List.getElem?_toArray, List.getElem?_cons_succ, List.getElem?_cons_zero]; rfl) (by kernel_rfl) (by kernel_rfl) (by kernel_rfl) (by exact fun _ _ _ h => h) (Or.inl ⟨by rfl, ?hq3_13_14⟩) hHeld ?rq3_13_14
          case hq3_13_14 => (intro w hSw; (try dsimp only at hSw); go_simp; (try with_reducible rfl))
          try simp only [put_laws]
          refine wpAnyH_done (by kernel_rfl) ?_ _
          have HM9 : Hid (MHo w w9 (M + 1) M G cG n W D (.slice (some ⟨g', 0, none⟩) (i + 1) c') (i + 1) (hst W f g i) (slW W f (i + 1))) := Lib.hid (HM1.out.push hb9 (by rw [HSL.out]; exact hO9))
          clear hHeld hO9 hg9 hq9 hb9 hbB HM2 hb0 hN0 py1 px1 gz1 hbl1 HM1
          have HMd := Lib.hid (HM9.out.below (Below.refl _ _).drew)
          have HMa := Lib.hid ((HM9.out.put y z).below (Below.refl _ _).drew)
          have HMb := Lib.hid (((HM9.out.put y z).put x 0).below (Below.refl _ _).drew)
          have m9 : w9.cell? ⟨M, 2, none⟩ = some (.slice (some ⟨G, 0, none⟩) n cG) := HM9.out.mm.cell 2
          have py9 := (HM9.out.bel.cell (p := ⟨b, off + i, none⟩) hbwH.out).trans HPY.out
          have px9 := (HM9.out.bel.cell (p := ⟨b, off + (i + 1), none⟩) hbwH.out).trans HPX.out
          have gz9 : w9.drew.cell? ⟨G, x, none⟩ = some (.int .i64 z) := ownI_get HM9.out.gg HZX.out
          obtain ⟨⟨u, hu⟩, hfy, -, -⟩ := own_cell HMd.out.gg hyn
          obtain ⟨⟨v, hv⟩, hfx, -, -⟩ := own_cell HMa.out.gg hxn
          go_wp2
          refine wp_region_held_drew (S := (fun w' => w'.cell? ⟨M, 2, none⟩ = some (.slice (some ⟨G, 0, none⟩) n cG) ∧ w'.cell? ⟨b, off + i, none⟩ = some (.int .i64 (y : Int)) ∧ w'.cell? ⟨b, off + (i + 1), none⟩ = some (.int .i64 (x : Int)))) (by kernel_rfl) ?_ (fun hHeld => ?_)
          · (try dsimp only); (first | exact ⟨m9, py9, px9⟩ | exact ⟨HMa.out.mm.cell 2, (HMa.out.bel.cell (p := ⟨b, off + i, none⟩) hbwH.out).trans HPY.out, (HMa.out.bel.cell (p := ⟨b, off + (i + 1), none⟩) hbwH.out).trans HPX.out⟩ | exact ⟨HMb.out.mm.cell 2, (HMb.out.bel.cell (p := ⟨b, off + i, none⟩) hbwH.out).trans HPY.out, (HMb.out.bel.cell (p := ⟨b, off + (i + 1), none⟩) hbwH.out).trans HPX.out⟩)
          refine wpAnyH_take (i := 0) (v := ?vq4_0_1) (by simp only [List.getElem?_toArray, List.getElem?_cons_zero]; rfl) (by kernel_rfl) (by kernel_rfl) (by kernel_rfl) (by exact fun _ _ _ h => h) (Or.inl ⟨by rfl, ?hq4_0_1⟩) hHeld ?rq4_0_1
          case hq4_0_1 => (intro w hSw; (try dsimp only at hSw); go_simp; (try with_reducible rfl))
          try simp only [put_laws]
          refine wpAnyH_take (i := 1) (v := ?vq4_1_2) (by simp only [List.getElem?_toArray, List.getElem?_cons_succ, List.getElem?_cons_zero]; rfl) (by kernel_rfl) (by kernel_rfl) (by kernel_rfl) (by exact fun _ _ _ h => h) (Or.inl ⟨by rfl, ?hq4_1_2⟩) hHeld ?rq4_1_2
          case hq4_1_2 => (intro w hSw; (try dsimp only at hSw); go_simp; (try with_reducible rfl))
          try simp only [put_laws]
          refine wpAnyH_take (i := 2) (v := ?vq4_2_3) (by simp only [List.getElem?_toArray, List.getElem?_cons_succ, List.getElem?_cons_zero]; rfl) (by kernel_rfl) (by kernel_rfl) (by kernel_rfl) (by exact fun _ _ _ h => h) (Or.inl ⟨by rfl, ?hq4_2_3⟩) hHeld ?rq4_2_3
          case hq4_2_3 => (intro w hSw; (try dsimp only at hSw); go_simp; (try with_reducible rfl))
          try simp only [put_laws]
          refine wpAnyH_take (i := 3) (v := ?vq4_3_4) (by simp only [List.getElem?_toArray, List.getElem?_cons_succ, List.getElem?_cons_zero]; rfl) (by kernel_rfl) (by kernel_rfl) (by kernel_rfl) (by exact fun _ _ _ h => h) (Or.inl ⟨by rfl, ?hq4_3_4⟩) hHeld ?rq4_3_4
          case hq4_3_4 => (intro w hSw; (try dsimp only at hSw); go_simp; (try with_reducible rfl))
          try simp only [put_laws]
          refine wpAnyH_take (i := 4) (v := ?vq4_4_5) (by simp only [List.getElem?_toArray, List.getElem?_cons_succ, List.getElem?_cons_zero]; rfl) (by kernel_rfl) (by kernel_rfl) (by kernel_rfl) (by exact fun _ _ _ h => h) (Or.inl ⟨by rfl, ?hq4_4_5⟩) hHeld ?rq4_4_5
          case hq4_4_5 => (intro w hSw; (try dsimp only at hSw); go_simp; (try with_reducible rfl))
          try simp only [put_laws]
          refine wpAnyH_take (i := 5) (v := ?vq4_5_6) (by simp only [List.getElem?_toArray, List.getElem?_cons_succ, List.getElem?_cons_zero]; rfl) (by kernel_rfl) (by kernel_rfl) (by kernel_rfl) (by exact fun _ _ _ h => h) (Or.inl ⟨by rfl, ?hq4_5_6⟩) hHeld ?rq4_5_6
          case hq4_5_6 => (intro w hSw; (try dsimp only at hSw); go_simp; (try with_reducible rfl))
          try simp only [put_laws]
          refine wpAnyH_take (i := 6) (v := ?vq4_6_7) (by simp only [List.getElem?_toArray, List.getElem?_cons_succ, List.getElem?_cons_zero]; rfl) (by kernel_rfl) (by kernel_rfl) (by kernel_rfl) (by exact fun _ _ _ h => h) (Or.inl ⟨by rfl, ?hq4_6_7⟩) hHeld ?rq4_6_7
          case hq4_6_7 => (intro w hSw; (try dsimp only at hSw); go_simp; (try with_reducible rfl))
          try simp only [put_laws]
          refine wpAnyH_take (i := 7) (v := ?vq4_7_8) (by simp only [List.getElem?_toArray, List.getElem?_cons_succ, List.getElem?_cons_zero]; rfl) (by kernel_rfl) (by kernel_rfl) (by kernel_rfl) (by exact fun _ _ _ h => h) (Or.inl ⟨by rfl, ?hq4_7_8⟩) hHeld ?rq4_7_8
          case hq4_7_8 => (intro w hSw; (try dsimp only at hSw); go_simp; (try with_reducible rfl))
          try simp only [put_laws]
          refine wpAnyH_take (i := 8) (v := ?vq4_8_9) (by simp only [List.getElem?_toArray, List.getElem?_cons_succ, List.getElem?_cons_zero]; rfl) (by kernel_rfl) (by kernel_rfl) (by kernel_rfl) (by exact fun _ _ _ h => h) (Or.inl ⟨by rfl, ?hq4_8_9⟩) hHeld ?rq4_8_9
          case hq4_8_9 => (intro w hSw; (try dsimp only at hSw); go_simp; (try with_reducible rfl))
          try simp only [put_laws]
          refine wpAnyH_take (i := 9) (v := ?vq4_9_10) (by simp only [List.getElem?_toArray, List.getElem?_cons_succ, List.getElem?_cons_zero]; rfl) (by kernel_rfl) (by kernel_rfl) (by kernel_rfl) (by exact fun _ _ _ h => h) (Or.inl ⟨by rfl, ?hq4_9_10⟩) hHeld ?rq4_9_10
          case hq4_9_10 => (intro w hSw; (try dsimp only at hSw); go_simp; (try with_reducible rfl))
          try simp only [put_laws]
          refine wpAnyH_take (i := 10) (v := ?vq4_10_11) (by simp only [List.getElem?_toArray, List.getElem?_cons_succ, List.getElem?_cons_zero]; rfl) (by kernel_rfl) (by kernel_rfl) (by kernel_rfl) (by exact fun _ _ _ h => h) (Or.inl ⟨by rfl, ?hq4_10_11⟩) hHeld ?rq4_10_11
          case hq4_10_11 => (intro w hSw; (try dsimp only at hSw); go_simp; (try with_reducible rfl))
          try simp only [put_laws]
          refine wpAnyH_take (i := 11) (v := ?vq4_11_12) (by simp only [List.getElem?_toArray, List.getElem?_cons_succ, List.getElem?_cons_zero]; rfl) (by kernel_rfl) (by kernel_rfl) (by kernel_rfl) (by exact fun _ _ _ h => h) (Or.inl ⟨by rfl, ?hq4_11_12⟩) hHeld ?rq4_11_12
          case hq4_11_12 => (intro w hSw; (try dsimp only at hSw); go_simp; (try with_reducible rfl))
          try simp only [put_laws]
          refine wpAnyH_take (i := 12) (v := ?vq4_12_13) (by simp only [List.getElem?_toArray, List.getElem?_cons_succ, List.getElem?_cons_zero]; rfl) (by kernel_rfl) (by kernel_rfl) (by kernel_rfl) (by exact fun _ _ _ h => h) (Or.inl ⟨by rfl, ?hq4_12_13⟩) hHeld ?rq4_12_13
          case hq4_12_13 => (intro w hSw; (try dsimp only at hSw); go_simp; (try with_reducible rfl))
          try simp only [put_laws]
          refine wpAnyH_take (i := 13) (v := ?vq4_13_14) (by simp only [List.getElem?_toArray, List.getElem?_cons_succ, List.getElem?_cons_zero]; rfl) (by kernel_rfl) (by kernel_rfl) (by kernel_rfl) (by exact fun _ _ _ h => h) (Or.inl ⟨by rfl, ?hq4_13_14⟩) hHeld ?rq4_13_14
          case hq4_13_14 => (intro w hSw; (try dsimp only at hSw); go_simp; (try with_reducible rfl))
          try simp only [put_laws]
          refine wpAnyH_take (i := 14) (v := ?vq4_14_15) (by simp only [List.getElem?_toArray, List.getElem?_cons_succ, List.getElem?_cons_zero]; rfl) (by kernel_rfl) (by kernel_rfl) (by kernel_rfl) (by exact fun _ _ _ h => h) (Or.inl ⟨by rfl, ?hq4_14_15⟩) hHeld ?rq4_14_15
          case hq4_14_15 => (intro w hSw; (try dsimp only at hSw); go_simp; (try with_reducible rfl))
          try simp only [put_laws]
          refine wpAnyH_take (i := 15) (v := ?vq4_15_16) (by simp only [List.getElem?_toArray, List.getElem?_cons_succ, List.getElem?_cons_zero]; rfl) (by kernel_rfl) (by kernel_rfl) (by kernel_rfl) (by exact fun _ _ _ h => h) (Or.inl ⟨by rfl, ?hq4_15_16⟩) hHeld ?rq4_15_16
          case hq4_15_16 => (intro w hSw; (try dsimp only at hSw); go_simp; (try with_reducible rfl))
          try simp only [put_laws]
          refine wpAnyH_take (i := 16) (v := ?vq4_16_17) (by simp only [List.getElem?_toArray, List.getElem?_cons_succ, List.getElem?_cons_zero]; rfl) (by kernel_rfl) (by kernel_rfl) (by kernel_rfl) (by exact fun _ _ _ h => h) (Or.inl ⟨by rfl, ?hq4_16_17⟩) hHeld ?rq4_16_17
          case hq4_16_17 => (intro w hSw; (try dsimp only at hSw); go_simp; (try with_reducible rfl))
          try simp only [put_laws]
          refine wpAnyH_take (i := 17) (v := ?vq4_17_18) (by simp only [List.getElem?_toArray, List.getElem?_cons_succ, List.getElem?_cons_zero]; rfl) (by kernel_rfl) (by kernel_rfl) (by kernel_rfl) (by exact fun _ _ _ h => h) (Or.inl ⟨by rfl, ?hq4_17_18⟩) hHeld ?rq4_17_18
          case hq4_17_18 => (intro w hSw; (try dsimp only at hSw); go_simp; (try with_reducible rfl))
          try simp only [put_laws]
          refine wpAnyH_take (i := 18) (v := ?vq4_18_19) (by simp only [List.getElem?_toArray, List.getElem?_cons_succ, List.getElem?_cons_zero]; rfl) (by kernel_rfl) (by kernel_rfl) (by kernel_rfl) (by exact fun _ _ _ h => h) (Or.inl ⟨by rfl, ?hq4_18_19⟩) hHeld ?rq4_18_19
          case hq4_18_19 => (intro w hSw; (try dsimp only at hSw); go_simp; (try with_reducible rfl))
          try simp only [put_laws]
          refine wpAnyH_take (i := 19) (v := ?vq4_19_20) (by simp only [List.getElem?_toArray, List.getElem?_cons_succ, List.getElem?_cons_zero]; rfl) (by kernel_rfl) (by kernel_rfl) (by kernel_rfl) (by exact fun _ _ _ h => h) (Or.inl ⟨by rfl, ?hq4_19_20⟩) hHeld ?rq4_19_20
          case hq4_19_20 => (intro w hSw; (try dsimp only at hSw); go_simp; (try with_reducible rfl))
          try simp only [put_laws]
          refine wpAnyH_ready (rs := [20]) (by kernel_rfl) (by simp) ?_
          refine AllReadyH.cons (by simp only [List.getElem?_toArray, List.getElem?_cons_succ, List.getElem?_cons_zero]; rfl) (fun K hK => ?_) AllReadyH.nil
          go_simp
          skip
          refine hK.out _ _ ?_ (fun hHeld => ?_)
          · (try dsimp only); (first | exact ⟨m9, py9, px9⟩ | exact ⟨HMa.out.mm.cell 2, (HMa.out.bel.cell (p := ⟨b, off + i, none⟩) hbwH.out).trans HPY.out, (HMa.out.bel.cell (p := ⟨b, off + (i + 1), none⟩) hbwH.out).trans HPX.out⟩ | exact ⟨HMb.out.mm.cell 2, (HMb.out.bel.cell (p := ⟨b, off + i, none⟩) hbwH.out).trans HPY.out, (HMb.out.bel.cell (p := ⟨b, off + (i + 1), none⟩) hbwH.out).trans HPX.out⟩)
          clear hK K
          try simp only [put_laws]
          refine wpAnyH_take (i := 21) (v := ?vq4_21_22) (by simp only [List.getElem?_toArray, List.getElem?_cons_succ, List.getElem?_cons_zero]; rfl) (by kernel_rfl) (by kernel_rfl) (by kernel_rfl) (by exact fun _ _ _ h => h) (Or.inl ⟨by rfl, ?hq4_21_22⟩) hHeld ?rq4_21_22
          case hq4_21_22 => (intro w hSw; (try dsimp only at hSw); go_simp; (try with_reducible rfl))
          try simp only [put_laws]
          refine wpAnyH_ready (rs := [22]) (by kernel_rfl) (by simp) ?_
          refine AllReadyH.cons (by simp only [List.getElem?_toArray, List.getElem?_cons_succ, List.getElem?_cons_zero]; rfl) (fun K hK => ?_) AllReadyH.nil
          go_simp
          skip
          refine hK.out _ _ ?_ (fun hHeld => ?_)
          · (try dsimp only); (first | exact ⟨m9, py9, px9⟩ | exact ⟨HMa.out.mm.cell 2, (HMa.out.bel.cell (p := ⟨b, off + i, none⟩) hbwH.out).trans HPY.out, (HMa.out.bel.cell (p := ⟨b, off + (i + 1), none⟩) hbwH.out).trans HPX.out⟩ | exact ⟨HMb.out.mm.cell 2, (HMb.out.bel.cell (p := ⟨b, off + i, none⟩) hbwH.out).trans HPY.out, (HMb.out.bel.cell (p := ⟨b, off + (i + 1), none⟩) hbwH.out).trans HPX.out⟩)
          clear hK K
          try simp only [put_laws]
          refine wpAnyH_take (i := 23) (v := ?vq4_23_24) (by simp only [List.getElem?_toArray, List.getElem?_cons_succ, List.getElem?_cons_zero]; rfl) (by kernel_rfl) (by kernel_rfl) (by kernel_rfl) (by exact fun _ _ _ h => h) (Or.inl ⟨by rfl, ?hq4_23_24⟩) hHeld ?rq4_23_24
          case hq4_23_24 => (intro w hSw; (try dsimp only at hSw); go_simp; (try with_reducible rfl))
          try simp only [put_laws]
          refine wpAnyH_ready (rs := [24]) (by kernel_rfl) (by simp) ?_
          refine AllReadyH.cons (by simp only [List.getElem?_toArray, List.getElem?_cons_succ, List.getElem?_cons_zero]; rfl) (fun K hK => ?_) AllReadyH.nil
          go_simp
          skip
          refine hK.out _ _ ?_ (fun hHeld => ?_)
          · (try dsimp only); (first | exact ⟨m9, py9, px9⟩ | exact ⟨HMa.out.mm.cell 2, (HMa.out.bel.cell (p := ⟨b, off + i, none⟩) hbwH.out).trans HPY.out, (HMa.out.bel.cell (p := ⟨b, off + (i + 1), none⟩) hbwH.out).trans HPX.out⟩ | exact ⟨HMb.out.mm.cell 2, (HMb.out.bel.cell (p := ⟨b, off + i, none⟩) hbwH.out).trans HPY.out, (HMb.out.bel.cell (p := ⟨b, off + (i + 1), none⟩) hbwH.out).trans HPX.out⟩)
          clear hK K
          try simp only [put_laws]
          refine wpAnyH_done (by kernel_rfl) ?_ _
          clear hHeld m9 py9 px9 gz9 hu hv hfx hfy
          go_wp2
          go_roundw
          case rel => exact ⟨i + 1, by omega, by go_num, ⟨_, _, rfl⟩, Lib.hid (by rw [HNX.out]; exact HMb.out)⟩
          case measure => simp [intOf]; omega
        · obtain rfl : i = j := by omega
          have hE := HM.out.ss
          go_wp2
          go_ret
          exact ⟨B, _, cU, rfl, Joins.ownsRow_le hE (by have h1 := HM.out.wG; have h2 := HM.out.gB; omega), slW_len W f i, HM.out.bel⟩
end Go.Proofs.YtdebjcempkgeaaaGreatDoor
