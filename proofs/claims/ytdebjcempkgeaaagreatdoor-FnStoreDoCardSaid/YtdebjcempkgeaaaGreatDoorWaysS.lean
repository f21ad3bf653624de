/-
  WayCells of the reference: the shortest way from a cell to the gate.
-/
import Derived.Test.YtdebjcempkgeaaaGreatDoorWays
namespace Go.Proofs.YtdebjcempkgeaaaGreatDoor
open Go.ChangeShapes Go.WideShapes Go.ChangeAt Go.RowKit

/-- How the lists lie while a way is made: how far the cells are in block T, the way in block P. -/
structure MWs (w0 w : World) (B Q T cT n P cP m : Nat) (hall : List Value) (ds ws : List Int) : Prop where
  st : w.ownsRow 0 3 1 (.slice (some ⟨T, 0, none⟩) n cT) n (ds.map (Value.int .i64))
  wy : w.ownsRow B 3 1 (.slice (some ⟨P, 0, none⟩) m cP) m (ws.map (Value.int .i64))
  tP : T ≠ P
  qB : Q < B
  wB : w0.heap.size ≤ B
  box : Whole w Q 25 hall
  bel : Below w0.heap.size w0 w
theorem MWs.below {w0 w w' : World} {B Q T cT n P cP m : Nat} {hall : List Value} {ds ws : List Int} (h : MWs w0 w B Q T cT n P cP m hall ds ws) (hb : Below w.heap.size w w') : MWs w0 w' B Q T cT n P cP m hall ds ws :=
  ⟨own_keep h.st hb, own_keep h.wy hb, h.tP, h.qB, h.wB, h.box.below hb, below_next h.bel hb⟩
theorem MWs.drewN {w0 w : World} {B Q T cT n P cP m : Nat} {hall : List Value} {ds ws : List Int} (h : MWs w0 w B Q T cT n P cP m hall ds ws) (q : Nat) : MWs w0 (w.drewN q) B Q T cT n P cP m hall ds ws := h.below (below_drewN (Below.refl _ _) q)
theorem MWs.more {w0 w w' : World} {B Q T cT n P cP m P' cP' m' : Nat} {hall : List Value} {ds ws ws' : List Int} (h : MWs w0 w B Q T cT n P cP m hall ds ws) {o : Obj} (hg : (w.alloc o).grownBy w' (some P)) (hq : P = P' ∨ P' = w.heap.size + 1)
    (ho : w'.ownsRow B 3 1 (.slice (some ⟨P', 0, none⟩) m' cP') m' (ws'.map (Value.int .i64))) : MWs w0 w' B Q T cT n P' cP' m' hall ds ws' := by
  have hT := (h.st.lt T rfl).2
  have hP := h.wy.lt P rfl
  have hQ := h.box.lt
  have hB1 := h.bel.alloc h.bel.size o
  refine ⟨ownG_blk h.st (blk_grow hg hT (by intro e; injection e with e; exact h.tP e)), ho, ?_, h.qB, h.wB, ?_, hB1.grown hg hB1.size (fun k hk => ?_)⟩
  · rcases hq with rfl | rfl
    · exact h.tP
    · omega
  · exact (blk_grow hg hQ (by intro e; injection e with e; have := h.qB; omega)).trans h.box
  · injection hk with hk; subst hk; have := h.wB; omega

set_option maxRecDepth 100000 in
set_option maxHeartbeats 8000000 in
theorem specWayCells_any (W D n : Nat) (A : Option Addr) (c : Nat) (g : List Int) (f : Nat) (w : World) (h : HallAt w W D n A c g) (hf : f < n) :
    Calls Tryz.prog 59 #[.agg #[.int .i64 W, .int .i64 D, .slice A n c], .int .i64 f, .int .i64 0, .int .i64 (-1)] w (LI w (wayI W f (dN W f + 1))) := by
  have hn := h.shp.n12
  have S := h.shp
  have hX1 := Whole.new w 25 [.int .i64 W, .int .i64 D, .slice A n c]
  have hB1 : Below w.heap.size w (w.alloc (.cells #[.int .i64 W, .int .i64 D, .slice A n c] 25)) := (Below.refl _ _).alloc (Nat.le_refl _) _
  have hbs : ∀ w : World, (Instr.buildSlice 23 0 #[]).run Tryz.prog w = .ok (.slice (some ⟨w.heap.size, 0, none⟩) 0 0) (w.alloc (.cells #[] 3)) := fun _ => by kernel_rfl
  have H := Lib.hid h
  clear h
  obtain ⟨Q, HQ⟩ : ∃ Q, Hid (Q = w.heap.size) := ⟨_, rfl⟩
  go_enter Tryz.func59, Tryz.ntmps59
  go_wp2_with fail
  clear hbs
  have hsz : (w.alloc (.cells #[.int .i64 W, .int .i64 D, .slice A n c] 25)).heap.size = Q + 1 := by rw [HQ.out]; simp
  have hO1 := own0 (base := Q + 1) (w1 := w.alloc (.cells #[.int .i64 W, .int .i64 D, .slice A n c] 25)) (by omega)
  have hX2 := hX1.alloc (.cells #[] 3)
  have hB2 := hB1.alloc hB1.size (.cells #[] 3)
  rw [hsz] at hO1
  rw [← HQ.out] at hX2 ⊢
  clear hX1 hB1 hsz
  generalize (w.alloc (.cells #[.int .i64 W, .int .i64 D, .slice A n c] 25)).alloc (.cells #[] 3) = w1 at *
  refine (specCellsApart_any W D n A c g f 0 _ (H.out.below hB2) hf (by omega)).mono ?_; rintro e w3 ⟨rfl, hb3⟩
  have hX3 := hX2.below hb3
  have hB3 := below_next hB2 hb3
  have hO3 := own_keep hO1 hb3
  clear hX2 hB2 hb3 hO1
  have x0 := hX3.cell 0
  have x1 := hX3.cell 1
  have x2 := hX3.cell 2
  simp only [List.getElem?_cons_zero, List.getElem?_cons_succ] at x0 x1 x2
  have d2 : ((-1 : Int) == (f : Int)) = false := by rw [beq_eq_false_iff_ne]; omega
  have hap := apN_le (a := f) (b := 0) S.w2 S.w1 (by omega) (by omega)
  generalize apN W f 0 = ap at *
  have d3 : decide ((ap : Int) < 0) = false := by simp
  go_wp2_with (go_at_call 39; refine (l1In_same _ _ _ true _ (by simp; omega)).mono ?_; rintro e wz ⟨rfl, rfl⟩)
  refine (l2Far_any W D n A c g _ (H.out.below hB3)).mono ?_; rintro e w6 ⟨TA, tn, cT, rfl, hT, hb6⟩
  have hX6 := hX3.below hb6
  have hB6 := below_next hB3 hb6
  have hO6 := own_keep hO3 hb6
  obtain rfl : tn = n := by have := hT.1; simp [dstL] at this; exact this.symm
  obtain ⟨T, rfl⟩ := own_block hT (by omega)
  have hTP : Q + 1 < T := by have h1 := (hT.lt T rfl).1; have h2 := (hO3.lt (Q + 1) rfl).2; omega
  clear hX3 hB3 hb6 x0 x1 x2 d2 d3 hap hO3
  have hfd := ownI_get hT (dst_get hf)
  obtain ⟨d, hd⟩ : ∃ d, Hid (d = dN W f) := ⟨_, rfl⟩
  have hd5 : d ≤ 5 := by rw [hd.out]; exact dN_le S hf
  rw [← hd.out] at hfd ⊢
  have hM00 : MWs w w6 (Q + 1) Q T cT tn (Q + 1) 0 0 [.int .i64 W, .int .i64 D, .slice A tn c] (dstL W tn) [] :=
    ⟨Joins.ownsRow_le hT (Nat.zero_le _), hO6, by omega, by omega, by rw [HQ.out]; omega, hX6, hB6⟩
  have HM00 := Lib.hid hM00
  have hcT := (ints_own hT).2
  have hBs0 : Q + 1 ≤ w6.heap.size := by have := hX6.lt; omega
  clear hX6 hB6 hT hO6 hM00
  go_wp2_with (at_builtin; (refine wpList_moreG (base := Q + 1) rfl (.tmp 49) (.tmp 51) rfl hBs0 HM00.out.wy (f : Int) rfl rfl (by omega) ?_; intro g0 c0 w7 hO7 hg7 hq7))
  have hq0 : Q + 1 = g0 ∨ g0 = w6.heap.size + 1 := by
    rcases hq7 with h | h
    · injection h with h; exact .inl h
    · exact .inr h
  have hM0 : MWs w w7 (Q + 1) Q T cT tn g0 c0 (0 + 1) [.int .i64 W, .int .i64 D, .slice A tn c] (dstL W tn) (wayI W f (0 + 1)) := HM00.out.more hg7 hq0 hO7
  clear hO7 hg7 hq7 hq0 HM00 hfd
  go_loopw [1, 9] (fun t v wr => ∃ i P cP y : Nat, i ≤ d ∧ t = .int .i64 y ∧ Hid (y = pcN W f i) ∧ v = .slice (some ⟨P, 0, none⟩) (i + 1) cP ∧ Hid (MWs w wr (Q + 1) Q T cT tn P cP (i + 1) [.int .i64 W, .int .i64 D, .slice A tn c] (dstL W tn) (wayI W f (i + 1)))) (fun t _ _ => dN W (intOf t).toNat)
  case atStart => exact ⟨0, g0, c0, f, by omega, rfl, Lib.hid rfl, rfl, Lib.hid hM0⟩
  case round =>
    obtain ⟨i, P, cP, y, hid, rfl, HY, rfl, HM⟩ := hrel
    clear hM0
    have hpc := pcN_ok S hf i (by rw [← hd.out]; exact hid)
    rw [← HY.out, ← hd.out] at hpc
    obtain ⟨hyn, hyd⟩ := hpc
    have hgate : y = 0 ↔ i = d := by rw [HY.out, hd.out]; exact pcN_gate S hf (by rw [← hd.out]; exact hid)
    by_cases hlt : i < d
    · have hy0 : y ≠ 0 := by intro h; have := hgate.1 h; omega
      obtain ⟨a1, a2, -, -, kk, a5, a6⟩ := nxt_ok S hyn hy0
      obtain ⟨x, hx⟩ : ∃ x, Hid (x = nxt W y) := ⟨_, rfl⟩
      rw [← hx.out] at a1 a2 a5
      have hne0 : ((y : Int) != 0) = true := by simp; omega
      have HA6 := Lib.hid a6
      have HA5 := Lib.hid a5
      have hkkL : kk < (besN W tn y).length := (List.getElem?_eq_some_iff.1 a5).1
      have hx0 : wr.cell? ⟨Q, 0, none⟩ = some (.int .i64 W) := HM.out.box.cell 0
      have hx1 : wr.cell? ⟨Q, 1, none⟩ = some (.int .i64 D) := HM.out.box.cell 1
      have hx2 : wr.cell? ⟨Q, 2, none⟩ = some (.slice A tn c) := HM.out.box.cell 2
      have HL1 : Hid ((besP W y tn).length = (besN W tn y).length) := Lib.hid (by rw [besP_map]; simp)
      have HYD := Lib.hid hyd
      have HA2 := Lib.hid a2
      clear a5 a6 hgate a2 hyd hy0
      go_wp2_with fail
      refine (specCellsBeside_any W D tn A c g y _ (H.out.below HM.out.bel) hyn).mono ?_; rintro e w8 ⟨NA, L, cN, rfl, hN, hb8⟩
      have hLL : L = (besN W tn y).length := by have h1 := hN.1; simp at h1; rw [← HL1.out]; exact h1.symm
      obtain ⟨N, rfl⟩ := own_block hN (by omega)
      have HM8 := Lib.hid (HM.out.below hb8)
      have HN8 := Lib.hid (Joins.ownsRow_le hN (Nat.zero_le _))
      have hcN := (ints_own hN).2
      have hkL : kk < L := by omega
      have hL12 : L ≤ 12 := by have := besP_len W y tn; have h1 := HL1.out; omega
      clear hx0 hx1 hx2 hN hb8 HM hLL HL1 hkkL
      go_wp2
      go_loopw [12] (fun t wr => ∃ j : Nat, j ≤ kk ∧ t = .int .i64 j ∧ Hid (MWs w wr (Q + 1) Q T cT tn P cP (i + 1) [.int .i64 W, .int .i64 D, .slice A tn c] (dstL W tn) (wayI W f (i + 1))) ∧ Hid (wr.ownsRow 0 3 1 (.slice (some ⟨N, 0, none⟩) L cN) L ((besP W y tn).map (Value.int .i64)))) (fun t _ => L - (intOf t).toNat)
      case atStart => exact ⟨0, by omega, rfl, HM8, HN8⟩
      case round =>
        obtain ⟨j, hjk, rfl, HM9, HN9⟩ := hrel
        clear HM8 HN8
        obtain ⟨q, hq⟩ : ∃ q, (besN W tn y)[j]? = some q := ⟨_, List.getElem?_eq_getElem (by have := (List.getElem?_eq_some_iff.1 HA5.out).1; omega)⟩
        have hqn : q < tn := besN_lt (List.mem_of_getElem? hq)
        have HQJ := Lib.hid hq
        have hnc := ownI_get HN9.out (show (besP W y tn)[j]? = some (q : Int) by rw [besP_map, List.getElem?_map, hq]; rfl)
        have hqc := ownI_get HM9.out.st (dst_get hqn)
        have hyc := ownI_get HM9.out.st (dst_get hyn)
        obtain ⟨dq, hdq⟩ : ∃ z, Hid (z = dN W q) := ⟨_, rfl⟩
        obtain ⟨dy, hdy⟩ : ∃ z, Hid (z = dN W y) := ⟨_, rfl⟩
        have b1 : dq ≤ 5 := by rw [hdq.out]; exact dN_le S hqn
        have b2 : dy ≤ 5 := by rw [hdy.out]; exact dN_le S hyn
        rw [← hdq.out] at hqc
        rw [← hdy.out] at hyc
        have hqm : ((q : Int) == -1) = false := by rw [beq_eq_false_iff_ne]; omega
        have hsub : IntKind.i64.wrap ((dy : Int) - 1) = (dy : Int) - 1 := IntWalk.i64_in _ (by omega)
        clear hq
        by_cases hjl : j < kk
        · have hne : ((dq : Int) != (dy : Int) - 1) = true := by
            have := HA6.out j q hjl HQJ.out
            rw [← hdq.out, ← hdy.out] at this
            rw [bne_iff_ne]; omega
          go_wp2
          go_quiet (fail)
          go_wp2
          go_roundw
          case rel => exact ⟨j + 1, by omega, by go_num, Lib.hid (HM9.out.drewN _), Lib.hid (own_keep HN9.out (below_drewN (Below.refl _ _) _))⟩
          case measure => simp [intOf]; omega
        · obtain rfl : j = kk := by omega
          obtain rfl : q = x := by have h1 := HQJ.out; rw [HA5.out] at h1; injection h1 with h1; exact h1.symm
          have hne : ((dq : Int) != (dy : Int) - 1) = false := by
            have := HA2.out
            rw [← hdq.out, ← hdy.out] at this
            simp; omega
          go_wp2
          go_quiet (fail)
          have HM10 := Lib.hid (HM9.out.drewN nq)
          have HN10 := Lib.hid (own_keep HN9.out (below_drewN (Below.refl _ _) nq))
          clear HM9 HN9 hnc hqc hyc
          generalize wr.drewN nq = wz at *
          have hnc := ownI_get HN10.out (show (besP W y tn)[j]? = some (q : Int) by rw [besP_map, List.getElem?_map, HQJ.out]; rfl)
          have hBs : Q + 1 ≤ wz.heap.size := by have := HM10.out.box.lt; omega
          have HPQ : Hid (q = pcN W f (i + 1)) := Lib.hid (by rw [hx.out, HY.out]; rfl)
          go_wp2_with (at_builtin; (refine wpList_moreG (base := Q + 1) rfl (.tmp 86) (.tmp 88) rfl hBs HM10.out.wy (q : Int) rfl rfl (by omega) ?_; intro g' c' w9 hO9 hg9 hq9))
          have hq2 : P = g' ∨ g' = wz.heap.size + 1 := by
            rcases hq9 with h | h
            · injection h with h; exact .inl h
            · exact .inr h
          have HMn : Hid (MWs w w9 (Q + 1) Q T cT tn g' c' (i + 1 + 1) [.int .i64 W, .int .i64 D, .slice A tn c] (dstL W tn) (wayI W f (i + 1 + 1))) := Lib.hid (HM10.out.more hg9 hq2 (by rw [wayI_next, ← HPQ.out]; exact hO9))
          go_roundw
          case rel => exact ⟨i + 1, g', c', q, by omega, rfl, HPQ, rfl, HMn⟩
          case measure => simp [intOf]; have := HA2.out; omega
    · obtain rfl : i = d := by omega
      have hy0 : y = 0 := hgate.2 rfl
      subst hy0
      go_wp2
      go_ret
      have HE : Hid (wayI W f (dN W f + 1) = wayI W f (i + 1)) := Lib.hid (by rw [← hd.out])
      exact ⟨_, _, _, rfl, Joins.ownsRow_le (by rw [HE.out]; exact HM.out.wy) HM.out.wB, HM.out.bel⟩
end Go.Proofs.YtdebjcempkgeaaaGreatDoor
