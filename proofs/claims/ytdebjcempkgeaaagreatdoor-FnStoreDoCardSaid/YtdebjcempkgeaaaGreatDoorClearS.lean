/-
  l2Nearest and ClearGate of the reference.
-/
import Derived.Test.YtdebjcempkgeaaaGreatDoorHoleS
import Derived.Test.YtdebjcempkgeaaaGreatDoorWaysS
namespace Go.Proofs.YtdebjcempkgeaaaGreatDoor
open Go.ChangeShapes Go.WideShapes Go.ChangeAt Go.RowKit

/-- The best way so far, where there is an empty list ahead of all. -/
def BestS (w : World) (W : Nat) (o : Option Nat) (v : Value) : Prop :=
  match o with
  | none => ∃ b c : Nat, v = .slice (some ⟨b, 0, none⟩) 0 c
  | some f => ∃ (b off c : Nat), v = .slice (some ⟨b, off, none⟩) (dN W f + 1) c ∧ IntsAt w (some ⟨b, off, none⟩) (dN W f + 1) (wayI W f (dN W f + 1)) ∧ dN W f + 1 ≤ c ∧ c ≤ 9223372036854775807
theorem BestS.below {w w' : World} {W : Nat} {o : Option Nat} {v : Value} (h : BestS w W o v) (hb : Below w.heap.size w w') : BestS w' W o v := by
  cases o with
  | none => exact h
  | some f => obtain ⟨b, off, c, h1, h2, h3⟩ := h; exact ⟨b, off, c, h1, h2.below hb, h3⟩
def NRR (w : World) (W : Nat) (o : Option Nat) (e : Ending) (w' : World) : Prop := ∃ v, e = .returned v ∧ BestS w' W o v ∧ Below w.heap.size w w'

set_option maxRecDepth 100000 in
set_option maxHeartbeats 8000000 in
theorem l2Nearest_any (W D n : Nat) (A : Option Addr) (c : Nat) (g : List Int) (w : World) (h : HallAt w W D n A c g) :
    Calls Tryz.prog 41 #[.agg #[.int .i64 W, .int .i64 D, .slice A n c], .int .i64 0, .int .i64 (-1)] w (NRR w W (nearL W (freeN g n))) := by
  have hn := h.shp.n12
  have S := h.shp
  have hX1 := Whole.new w 25 [.int .i64 W, .int .i64 D, .slice A n c]
  have hX2 := hX1.alloc (.cells #[] 3)
  have hB1 : Below w.heap.size w (w.alloc (.cells #[.int .i64 W, .int .i64 D, .slice A n c] 25)) := (Below.refl _ _).alloc (Nat.le_refl _) _
  have hB2 := hB1.alloc hB1.size (.cells #[] 3)
  have hbs : ∀ w : World, (Instr.buildSlice 23 0 #[]).run Tryz.prog w = .ok (.slice (some ⟨w.heap.size, 0, none⟩) 0 0) (w.alloc (.cells #[] 3)) := fun _ => by kernel_rfl
  have H := Lib.hid h
  clear h hX1 hB1
  obtain ⟨Q, HQ⟩ : ∃ Q, Hid (Q = w.heap.size) := ⟨_, rfl⟩
  go_enter Tryz.func41, Tryz.ntmps41
  go_wp2_with fail
  clear hbs
  rw [← HQ.out] at hX2 ⊢
  generalize (w.alloc (.cells #[.int .i64 W, .int .i64 D, .slice A n c] 25)).alloc (.cells #[] 3) = w1 at *
  refine (specHallFree_any W D n A c g _ (by omega) H.out.cap.1 (H.out.ints.below hB2) true H.out.ok).mono ?_; rintro e w3 ⟨FA, m, fc, rfl, hF, hb3⟩
  have hX3 := hX2.below hb3
  have hB3 := below_next hB2 hb3
  have e0 : freeH true g n = freeP g n := rfl
  rw [e0] at hF
  have hFI := OwnAt.farInts hF
  have hml : (freeN g n).length = m := by have := hFI.ints.len; rw [freeP_map] at this; simpa using this
  have hm12 : m ≤ 12 := by have := freeP_len g n; rw [freeP_map] at this; simp at this; omega
  have HF := Lib.hid hFI.ints
  have hfc := hFI.cap
  have HML := Lib.hid hml
  clear hX2 hB2 hb3 hF hFI hml e0
  go_wp2
  go_loopw [7, 9] (fun v t wr => ∃ k : Nat, k ≤ m ∧ t = .int .i64 k ∧ Hid (BestS wr W (nearL W ((freeN g n).take k)) v) ∧ Hid (IntsAt wr FA m (freeP g n)) ∧ Whole wr Q 25 [.int .i64 W, .int .i64 D, .slice A n c] ∧ Below w.heap.size w wr) (fun _ t _ => m - (intOf t).toNat)
  case atStart => exact ⟨0, by omega, rfl, Lib.hid ⟨_, _, rfl⟩, HF, hX3, hB3⟩
  case round =>
    obtain ⟨k, hk, rfl, HB, HFw, hX, hB⟩ := hrel
    clear hX3 hB3
    by_cases hlt : k < m
    · obtain ⟨f, hf⟩ : ∃ f, (freeN g n)[k]? = some f := ⟨_, List.getElem?_eq_getElem (by rw [HML.out]; exact hlt)⟩
      have hfn : f < n := (freeN_mem.1 (List.mem_of_getElem? hf)).1
      have HNX := Lib.hid (nearL_next (W := W) hf)
      obtain ⟨z, fb, foff, HZ, hFA, hfb, hfcell⟩ := HFw.out.get hlt
      subst hFA
      obtain rfl : z = (f : Int) := by
        have h1 := HZ.out
        rw [freeP_map, List.getElem?_map, hf] at h1
        injection h1 with h1; exact h1.symm
      have x0 : wr.cell? ⟨Q, 0, none⟩ = some (.int .i64 W) := hX.cell 0
      have x1 : wr.cell? ⟨Q, 1, none⟩ = some (.int .i64 D) := hX.cell 1
      have x2 : wr.cell? ⟨Q, 2, none⟩ = some (.slice A n c) := hX.cell 2
      clear hf
      obtain ⟨o, ho⟩ : ∃ o, Hid (o = nearL W ((freeN g n).take k)) := ⟨_, rfl⟩
      rw [← ho.out] at HB HNX
      have hd5 := dN_le S hfn
      go_wp2
      refine wp_region_held_drew (S := (fun w' => w'.cell? ⟨Q, 0, none⟩ = some (.int .i64 W) ∧ w'.cell? ⟨Q, 1, none⟩ = some (.int .i64 D) ∧ w'.cell? ⟨Q, 2, none⟩ = some (.slice A n c) ∧ w'.cell? ⟨fb, foff + k, none⟩ = some (.int .i64 (f : Int)))) (by kernel_rfl) ?_ (fun hHeld => ?_)
      · (try dsimp only); (first | exact ⟨x0, x1, x2, hfcell⟩ | exact ⟨hX6.cell 0, hX6.cell 1, hX6.cell 2, (hb6.cell (p := ⟨fb, foff + k, none⟩) hfb).trans hfcell⟩)
      refine wpAnyH_take (i := 0) (v := ?vq1_0_1) (by simp only [List.getElem?_toArray, List.getElem?_cons_zero]; rfl) (by kernel_rfl) (by kernel_rfl) (by kernel_rfl) (by exact fun _ _ _ h => h) (Or.inl ⟨by rfl, ?hq1_0_1⟩) hHeld ?rq1_0_1
      case hq1_0_1 => (intro w hSw; (try dsimp only at hSw); go_simp; (try with_reducible rfl))
      try simp only [put_laws]
      refine wpAnyH_take (i := 1) (v := ?vq1_1_2) (by simp only [List.getElem?_toArray, List.getElem?_cons_succ, List.getElem?_cons_zero]; rfl) (by kernel_rfl) (by kernel_rfl) (by kernel_rfl) (by exact fun _ _ _ h => h) (Or.inl ⟨by rfl, ?hq1_1_2⟩) hHeld ?rq1_1_2
      case hq1_1_2 => (intro w hSw; (try dsimp only at hSw); go_simp; (try with_reducible rfl))
      try simp only [put_laws]
      refine wpAnyH_take (i := 2) (v := ?vq1_2_3) (by simp only [List.getElem?_toArray, List.getElem?_cons_succ, List.getElem?_cons_zero]; rfl) (by kernel_rfl) (by kernel_rfl) (by kernel_rfl) (by exact fun _ _ _ h => h) (Or.inl ⟨by rfl, ?hq1_2_3⟩) hHeld ?rq1_2_3
      case hq1_2_3 => (intro w hSw; (try dsimp only at hSw); go_simp; (try with_reducible rfl))
      try simp only [put_laws]
      refine wpAnyH_take (i := 3) (v := ?vq1_3_4) (by simp only [List.getElem?_toArray, List.getElem?_cons_succ, List.getElem?_cons_zero]; rfl) (by kernel_rfl) (by kernel_rfl) (by kernel_rfl) (by exact fun _ _ _ h => h) (Or.inl ⟨by rfl, ?hq1_3_4⟩) hHeld ?rq1_3_4
      case hq1_3_4 => (intro w hSw; (try dsimp only at hSw); go_simp; (try with_reducible rfl))
      try simp only [put_laws]
      refine wpAnyH_take (i := 4) (v := ?vq1_4_5) (by simp only [List.getElem?_toArray, List.getElem?_cons_succ, List.getElem?_cons_zero]; rfl) (by kernel_rfl) (by kernel_rfl) (by kernel_rfl) (by exact fun _ _ _ h => h) (Or.inl ⟨by rfl, ?hq1_4_5⟩) hHeld ?rq1_4_5
      case hq1_4_5 => (intro w hSw; (try dsimp only at hSw); go_simp; (try with_reducible rfl))
      try simp only [put_laws]
      refine wpAnyH_take (i := 5) (v := ?vq1_5_6) (by simp only [List.getElem?_toArray, List.getElem?_cons_succ, List.getElem?_cons_zero]; rfl) (by kernel_rfl) (by kernel_rfl) (by kernel_rfl) (by exact fun _ _ _ h => h) (Or.inl ⟨by rfl, ?hq1_5_6⟩) hHeld ?rq1_5_6
      case hq1_5_6 => (intro w hSw; (try dsimp only at hSw); go_simp; (try with_reducible rfl))
      try simp only [put_laws]
      refine wpAnyH_take (i := 6) (v := ?vq1_6_7) (by simp only [List.getElem?_toArray, List.getElem?_cons_succ, List.getElem?_cons_zero]; rfl) (by kernel_rfl) (by kernel_rfl) (by kernel_rfl) (by exact fun _ _ _ h => h) (Or.inl ⟨by rfl, ?hq1_6_7⟩) hHeld ?rq1_6_7
      case hq1_6_7 => (intro w hSw; (try dsimp only at hSw); go_simp; (try with_reducible rfl))
      try simp only [put_laws]
      refine wpAnyH_ready (rs := [7]) (by kernel_rfl) (by simp) ?_
      refine AllReadyH.cons (by simp only [List.getElem?_toArray, List.getElem?_cons_succ, List.getElem?_cons_zero]; rfl) (fun K hK => ?_) AllReadyH.nil
      go_simp
      (refine (specWayCells_any W D n A c g f _ (H.out.below hB.drew) hfn).mono ?_; rintro e w6 ⟨PA, pn, pc, rfl, hP, hb6⟩; have hX6 := (Whole.drew hX).below hb6; have hB6 := below_next hB.drew hb6)
      refine hK.out _ _ ?_ (fun hHeld => ?_)
      · (try dsimp only); (first | exact ⟨x0, x1, x2, hfcell⟩ | exact ⟨hX6.cell 0, hX6.cell 1, hX6.cell 2, (hb6.cell (p := ⟨fb, foff + k, none⟩) hfb).trans hfcell⟩)
      clear hK K
      try simp only [put_laws]
      refine wpAnyH_take (i := 8) (v := ?vq1_8_9) (by simp only [List.getElem?_toArray, List.getElem?_cons_succ, List.getElem?_cons_zero]; rfl) (by kernel_rfl) (by kernel_rfl) (by kernel_rfl) (by exact fun _ _ _ h => h) (Or.inl ⟨by rfl, ?hq1_8_9⟩) hHeld ?rq1_8_9
      case hq1_8_9 => (intro w hSw; (try dsimp only at hSw); go_simp; (try with_reducible rfl))
      try simp only [put_laws]
      refine wpAnyH_done (by kernel_rfl) ?_ _
      obtain rfl : pn = dN W f + 1 := by have := hP.1; simp [wayI_len] at this; exact this.symm
      obtain ⟨P, rfl⟩ := own_block hP (by omega)
      have hPI := OwnAt.farInts hP
      have hb6' : Below wr.heap.size wr w6 := (Below.refl wr.heap.size wr).drew.trans hb6
      have HF6 := Lib.hid (HFw.out.below hb6')
      have HB6 := Lib.hid (HB.out.below hb6')
      clear hHeld x0 x1 x2 hfcell hP hb6 hb6' hX hB HB HFw
      have hdp2 : decide ((0 : Int) < (dN W f : Int) + 1) = true := decide_eq_true (by omega)
      cases o with
      | none =>
        obtain ⟨b0, c0, hv⟩ := HB6.out
        subst hv
        have HG : Hid (BestS w6 W (nearL W ((freeN g n).take (k + 1))) (.slice (some ⟨P, 0, none⟩) (dN W f + 1) pc)) := Lib.hid (by
          rw [HNX.out]; exact ⟨P, 0, pc, rfl, hPI.ints, by have h1 := hPI.cap; unfold maxLen at h1; omega⟩)
        clear hPI
        generalize dN W f = df at *
        go_wp2
        go_roundw
        case rel => exact ⟨k + 1, by omega, by go_num, HG, HF6, hX6, hB6⟩
        case measure => simp [intOf]; omega
      | some f0 =>
        obtain ⟨bb, boff, bc, hv, hbI, hbc⟩ := HB6.out
        subst hv
        have HBI := Lib.hid hbI
        clear hbI
        have hz : (((dN W f0 + 1 : Nat) : Int) == 0) = false := by rw [beq_eq_false_iff_ne]; omega
        have hz2 : ((dN W f0 : Int) + 1 == 0) = false := by rw [beq_eq_false_iff_ne]; omega
        by_cases hd : dN W f < dN W f0
        · have HG : Hid (BestS w6 W (nearL W ((freeN g n).take (k + 1))) (.slice (some ⟨P, 0, none⟩) (dN W f + 1) pc)) := Lib.hid (by
            rw [HNX.out]; show BestS w6 W (if _ then _ else _) _; rw [if_pos hd]; exact ⟨P, 0, pc, rfl, hPI.ints, by have h1 := hPI.cap; unfold maxLen at h1; omega⟩)
          have hdb2 : decide ((dN W f : Int) < (dN W f0 : Int)) = true := by simp; omega
          clear hPI
          generalize dN W f = df at *
          generalize dN W f0 = df0 at *
          go_wp2
          go_roundw
          case rel => exact ⟨k + 1, by omega, by go_num, HG, HF6, hX6, hB6⟩
          case measure => simp [intOf]; omega
        · have HG : Hid (BestS w6 W (nearL W ((freeN g n).take (k + 1))) (.slice (some ⟨bb, boff, none⟩) (dN W f0 + 1) bc)) := Lib.hid (by
            rw [HNX.out]; show BestS w6 W (if _ then _ else _) _; rw [if_neg hd]; exact ⟨bb, boff, bc, rfl, HBI.out, hbc⟩)
          have hdb2 : decide ((dN W f : Int) < (dN W f0 : Int)) = false := by simp; omega
          clear hPI
          generalize dN W f = df at *
          generalize dN W f0 = df0 at *
          go_wp2
          go_roundw
          case rel => exact ⟨k + 1, by omega, by go_num, HG, HF6, hX6, hB6⟩
          case measure => simp [intOf]; omega
    · obtain rfl : k = m := by omega
      rw [← HML.out, List.take_length] at HB
      go_wp2
      go_ret
      exact ⟨_, rfl, HB.out, hB⟩

set_option maxRecDepth 100000 in
set_option maxHeartbeats 8000000 in
theorem specClearGate_any (W D n : Nat) (A : Option Addr) (c : Nat) (g : List Int) (w : World) (h : HallAt w W D n A c g) :
    Calls Tryz.prog 22 #[.agg #[.int .i64 W, .int .i64 D, .slice A n c]] w (CGR w (clearO W n g)) := by
  have hn := h.shp.n12
  have S := h.shp
  have hX1 := Whole.new w 25 [.int .i64 W, .int .i64 D, .slice A n c]
  have hX2 := hX1.alloc (.cells #[] 3)
  have hB1 : Below w.heap.size w (w.alloc (.cells #[.int .i64 W, .int .i64 D, .slice A n c] 25)) := (Below.refl _ _).alloc (Nat.le_refl _) _
  have hB2 := hB1.alloc hB1.size (.cells #[] 3)
  have hbs : ∀ w : World, (Instr.buildSlice 23 0 #[]).run Tryz.prog w = .ok (.slice (some ⟨w.heap.size, 0, none⟩) 0 0) (w.alloc (.cells #[] 3)) := fun _ => by kernel_rfl
  have hbs2 : ∀ w : World, (Instr.buildSlice 40 0 #[]).run Tryz.prog w = .ok (.slice (some ⟨w.heap.size, 0, none⟩) 0 0) (w.alloc (.cells #[] 62)) := fun _ => by kernel_rfl
  have H := Lib.hid h
  clear h hX1 hB1
  obtain ⟨Q, HQ⟩ : ∃ Q, Hid (Q = w.heap.size) := ⟨_, rfl⟩
  have hwQ : w.heap.size ≤ Q := Nat.le_of_eq HQ.out.symm
  go_enter Tryz.func22, Tryz.ntmps22
  go_wp2_with fail
  rw [← HQ.out] at hX2 ⊢
  generalize (w.alloc (.cells #[.int .i64 W, .int .i64 D, .slice A n c] 25)).alloc (.cells #[] 3) = w1 at *
  refine (specHallValid_any W D A n c g _ (by omega) H.out.cap.1 (H.out.ints.below hB2)).mono ?_; rintro e w3 ⟨rfl, hb3⟩
  rw [H.out.ok]
  have hX3 := hX2.below hb3
  have hB3 := below_next hB2 hb3
  clear hX2 hB2 hb3
  have x0 := hX3.cell 0
  have x1 := hX3.cell 1
  have x2 := hX3.cell 2
  simp only [List.getElem?_cons_zero, List.getElem?_cons_succ] at x0 x1 x2
  go_wp2_with fail
  refine (l2Nearest_any W D n A c g _ (H.out.below hB3)).mono ?_; rintro e w4 ⟨v, rfl, hv, hb4⟩
  have hX4 := hX3.below hb4
  have hB4 := below_next hB3 hb4
  have HE : Hid (clearO W n g = (nearL W (freeN g n)).map fun f => slW W f (dN W f)) := Lib.hid rfl
  obtain ⟨o, ho⟩ : ∃ o, Hid (o = nearL W (freeN g n)) := ⟨_, rfl⟩
  rw [← ho.out] at hv HE
  clear hX3 hB3 hb4 x0 x1 x2
  have x0 := hX4.cell 0
  have x1 := hX4.cell 1
  have x2 := hX4.cell 2
  simp only [List.getElem?_cons_zero, List.getElem?_cons_succ] at x0 x1 x2
  cases o with
  | none =>
    obtain ⟨b0, c0, hv⟩ := hv
    subst hv
    go_wp2
    have hO : (w4.alloc (.cells #[] 62)).ownsRow w.heap.size 62 2 (.slice (some ⟨w4.heap.size, 0, none⟩) 0 0) 0 [] := ownS0 hB4.size
    exact bodyPost_ret (v := .tuple #[.slice (some ⟨w4.heap.size, 0, none⟩) 0 0, .bool false]) (by simp [results, Tryz.results22, go_sem]) rfl ⟨_, 0, 0, by rw [HE.out]; rfl, by rw [HE.out]; exact hO, by rw [HE.out]; rfl, hB4.alloc hB4.size _⟩
  | some f =>
    obtain ⟨bb, boff, bc, hv, hbI, hbc⟩ := hv
    subst hv
    have HNF := near_free ho.out.symm
    have hz2 : ((dN W f : Int) + 1 == 0) = false := by rw [beq_eq_false_iff_ne]; omega
    clear hbs hbs2
    go_wp2_with fail
    refine (specHoleSlides_any W D n A c g f (some ⟨bb, boff, none⟩) bc _ (H.out.below hB4) HNF hbI hbc).mono ?_; rintro e w6 ⟨SA, sm, sc, rfl, hS, hsl, hb6⟩
    have hB6 := below_next hB4 hb6
    have hw6 := hB4.size
    go_wp2
    exact bodyPost_ret (v := .tuple #[.slice SA sm sc, .bool true]) (by simp [results, Tryz.results22, go_sem]) rfl ⟨SA, sm, sc, by rw [HE.out]; rfl, by rw [HE.out]; exact Joins.ownsRow_le hS hw6, by rw [HE.out]; exact hsl, hB6⟩
end Go.Proofs.YtdebjcempkgeaaaGreatDoor
