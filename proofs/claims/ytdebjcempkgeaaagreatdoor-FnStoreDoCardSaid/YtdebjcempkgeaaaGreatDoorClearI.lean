/-
  ClearGate of the program.
-/
import Derived.Test.YtdebjcempkgeaaaGreatDoorHoleI
import Derived.Test.YtdebjcempkgeaaaGreatDoorWaysS
import Derived.Lib.SliceRun
namespace Go.Proofs.YtdebjcempkgeaaaGreatDoor
open Go.ChangeShapes Go.WideShapes Go.ChangeAt Go.RowKit

/-- The best way so far. -/
def BestW (w : World) (W : Nat) (o : Option Nat) (v : Value) : Prop :=
  match o with
  | none => v = .slice none 0 0
  | some f => ∃ (b off c : Nat), v = .slice (some ⟨b, off, none⟩) (dN W f + 1) c ∧ IntsAt w (some ⟨b, off, none⟩) (dN W f + 1) (wayI W f (dN W f + 1)) ∧ dN W f + 1 ≤ c ∧ c ≤ 9223372036854775807
theorem BestW.below {w w' : World} {W : Nat} {o : Option Nat} {v : Value} (h : BestW w W o v) (hb : Below w.heap.size w w') : BestW w' W o v := by
  cases o with
  | none => exact h
  | some f => obtain ⟨b, off, c, h1, h2, h3⟩ := h; exact ⟨b, off, c, h1, h2.below hb, h3⟩
/-- The slides that make the gate free. -/
def clearO (W n : Nat) (g : List Int) : Option (List (Nat × Nat)) := (nearL W (freeN g n)).map fun f => slW W f (dN W f)
def CGR (w : World) (o : Option (List (Nat × Nat))) (e : Ending) (w' : World) : Prop :=
  ∃ (A : Option Addr) (m c : Nat), e = .returned (.tuple #[.slice A m c, .bool o.isSome]) ∧ w'.ownsRow w.heap.size 62 2 (.slice A m c) m (slc (o.getD [])).flatten ∧ (o.getD []).length = m ∧ Below w.heap.size w w'

set_option maxRecDepth 100000 in
set_option maxHeartbeats 8000000 in
theorem clearGate_any (W D n : Nat) (A : Option Addr) (c : Nat) (g : List Int) (w : World) (h : HallAt w W D n A c g) :
    Calls Tryz.prog 17 #[.agg #[.int .i64 W, .int .i64 D, .slice A n c]] w (CGR w (clearO W n g)) := by
  have hn := h.shp.n12
  have S := h.shp
  have hX1 := Whole.new w 25 [.int .i64 W, .int .i64 D, .slice A n c]
  have hB1 : Below w.heap.size w (w.alloc (.cells #[.int .i64 W, .int .i64 D, .slice A n c] 25)) := (Below.refl _ _).alloc (Nat.le_refl _) _
  have q : ∀ (w : World) (a : Option Addr) (n c n' c' : Nat), (binOp .eql 23 (.slice a n c) (.slice none n' c')).run Tryz.prog w = .ok (.bool a.isNone) w := fun w a n c n' c' => Lib.run_eql_slice_nil w _ _ a n c n' c' Tryz.underlying23
  have HQN := Lib.hid q
  clear q
  have H := Lib.hid h
  clear h
  obtain ⟨Q, HQ⟩ : ∃ Q, Hid (Q = w.heap.size) := ⟨_, rfl⟩
  go_enter Tryz.func17, Tryz.ntmps17
  go_wp2_with fail
  rw [← HQ.out] at hX1 ⊢
  generalize w.alloc (.cells #[.int .i64 W, .int .i64 D, .slice A n c] 25) = w1 at *
  refine (hallFree_any W D n A c g _ (H.out.below hB1)).mono ?_; rintro e w3 ⟨FA, m, fc, rfl, hF, hb3⟩
  have hX3 := hX1.below hb3
  have hB3 := below_next hB1 hb3
  have hFI := OwnAt.farInts hF
  have hml : (freeN g n).length = m := by have := hFI.ints.len; rw [freeP_map] at this; simpa using this
  have hm12 : m ≤ 12 := by have := freeP_len g n; rw [freeP_map] at this; simp at this; omega
  have HF := Lib.hid hFI.ints
  have hfc := hFI.cap
  have HML := Lib.hid hml
  clear hX1 hB1 hb3 hF hFI hml
  go_wp2
  go_loopw [4, 11] (fun v t wr => ∃ k : Nat, k ≤ m ∧ t = .int .i64 k ∧ Hid (BestW wr W (nearL W ((freeN g n).take k)) v) ∧ Hid (IntsAt wr FA m (freeP g n)) ∧ Whole wr Q 25 [.int .i64 W, .int .i64 D, .slice A n c] ∧ Below w.heap.size w wr) (fun _ t _ => m - (intOf t).toNat)
  case atStart => exact ⟨0, by omega, rfl, Lib.hid rfl, HF, hX3, hB3⟩
  case round =>
    obtain ⟨k, hk, rfl, HB, HFw, hX, hB⟩ := hrel
    clear hX3 hB3
    by_cases hlt : k < m
    · obtain ⟨f, hf⟩ : ∃ f, (freeN g n)[k]? = some f := ⟨_, List.getElem?_eq_getElem (by rw [HML.out]; exact hlt)⟩
      have hfn : f < n := (freeN_mem.1 (List.mem_of_getElem? hf)).1
      have HNX := Lib.hid (nearL_next (W := W) hf)
      obtain ⟨z, fb, foff, HZ, hFA, hfb, hfcell⟩ := HFw.out.get hlt
      subst hFA
      obtain rfl : z = (f : Int) := by
        have h1 := HZ.out
        rw [freeP_map, List.getElem?_map, hf] at h1
        injection h1 with h1; exact h1.symm
      have x0 : wr.cell? ⟨Q, 0, none⟩ = some (.int .i64 W) := hX.cell 0
      have x1 : wr.cell? ⟨Q, 1, none⟩ = some (.int .i64 D) := hX.cell 1
      have x2 : wr.cell? ⟨Q, 2, none⟩ = some (.slice A n c) := hX.cell 2
      clear hf
      obtain ⟨o, ho⟩ : ∃ o, Hid (o = nearL W ((freeN g n).take k)) := ⟨_, rfl⟩
      rw [← ho.out] at HB HNX
      cases o with
      | none =>
        have hv := HB.out
        subst hv
        have q := HQN.out
        go_wp2_with fail
        refine (wayCells_any W D n A c g f _ (H.out.below hB) hfn).mono ?_; rintro e w6 ⟨PA, pn, pc, rfl, hP, hb6⟩
        obtain rfl : pn = dN W f + 1 := by have := hP.1; simp [wayI_len] at this; exact this.symm
        obtain ⟨P, rfl⟩ := own_block hP (by omega)
        have hPI := OwnAt.farInts hP
        have HG : Hid (BestW w6 W (nearL W ((freeN g n).take (k + 1))) (.slice (some ⟨P, 0, none⟩) (dN W f + 1) pc)) := Lib.hid (by
          rw [HNX.out]; exact ⟨P, 0, pc, rfl, hPI.ints, by have h1 := hPI.cap; unfold maxLen at h1; omega⟩)
        have HF6 := Lib.hid (HFw.out.below hb6)
        have hX6 := hX.below hb6
        have hB6 := below_next hB hb6
        clear hP hPI hb6 x0 x1 x2 hfcell
        go_wp2
        go_roundw
        case rel => exact ⟨k + 1, by omega, by go_num, HG, HF6, hX6, hB6⟩
        case measure => simp [intOf]; omega
      | some f0 =>
        obtain ⟨bb, boff, bc, hv, hbI, hbc⟩ := HB.out
        subst hv
        have q := HQN.out
        have HBI := Lib.hid hbI
        clear hbI
        go_wp2_with fail
        refine (wayCells_any W D n A c g f _ (H.out.below hB) hfn).mono ?_; rintro e w6 ⟨PA, pn, pc, rfl, hP, hb6⟩
        obtain rfl : pn = dN W f + 1 := by have := hP.1; simp [wayI_len] at this; exact this.symm
        obtain ⟨P, rfl⟩ := own_block hP (by omega)
        have hPI := OwnAt.farInts hP
        have HF6 := Lib.hid (HFw.out.below hb6)
        have hX6 := hX.below hb6
        have hB6 := below_next hB hb6
        have hd5 := dN_le S hfn
        by_cases hd : dN W f < dN W f0
        · have HG : Hid (BestW w6 W (nearL W ((freeN g n).take (k + 1))) (.slice (some ⟨P, 0, none⟩) (dN W f + 1) pc)) := Lib.hid (by
            rw [HNX.out]; show BestW w6 W (if _ then _ else _) _; rw [if_pos hd]; exact ⟨P, 0, pc, rfl, hPI.ints, by have h1 := hPI.cap; unfold maxLen at h1; omega⟩)
          have hdb : decide (((dN W f + 1 : Nat) : Int) < ((dN W f0 + 1 : Nat) : Int)) = true := by simp; omega
          have hdb2 : decide ((dN W f : Int) < (dN W f0 : Int)) = true := by simp; omega
          clear hP hPI hb6 x0 x1 x2 hfcell
          generalize dN W f = df at *
          generalize dN W f0 = df0 at *
          go_wp2
          go_roundw
          case rel => exact ⟨k + 1, by omega, by go_num, HG, HF6, hX6, hB6⟩
          case measure => simp [intOf]; omega
        · have HG : Hid (BestW w6 W (nearL W ((freeN g n).take (k + 1))) (.slice (some ⟨bb, boff, none⟩) (dN W f0 + 1) bc)) := Lib.hid (by
            rw [HNX.out]; show BestW w6 W (if _ then _ else _) _; rw [if_neg hd]; exact ⟨bb, boff, bc, rfl, HBI.out.below hb6, hbc⟩)
          have hdb2 : decide ((dN W f : Int) < (dN W f0 : Int)) = false := by simp; omega
          clear hP hPI hb6 x0 x1 x2 hfcell
          generalize dN W f = df at *
          generalize dN W f0 = df0 at *
          go_wp2
          go_roundw
          case rel => exact ⟨k + 1, by omega, by go_num, HG, HF6, hX6, hB6⟩
          case measure => simp [intOf]; omega
    · obtain rfl : k = m := by omega
      have HE : Hid (clearO W n g = (nearL W (freeN g n)).map fun f => slW W f (dN W f)) := Lib.hid rfl
      rw [← HML.out, List.take_length] at HB
      have x0 : wr.cell? ⟨Q, 0, none⟩ = some (.int .i64 W) := hX.cell 0
      have x1 : wr.cell? ⟨Q, 1, none⟩ = some (.int .i64 D) := hX.cell 1
      have x2 : wr.cell? ⟨Q, 2, none⟩ = some (.slice A n c) := hX.cell 2
      obtain ⟨o, ho⟩ : ∃ o, Hid (o = nearL W (freeN g n)) := ⟨_, rfl⟩
      rw [← ho.out] at HB HE
      have q := HQN.out
      cases o with
      | none =>
        have hv := HB.out
        subst hv
        go_wp2
        exact bodyPost_ret (v := .tuple #[.slice none 0 0, .bool false]) (by simp [results, Tryz.results17, go_sem]) rfl ⟨none, 0, 0, by rw [HE.out]; rfl, by rw [HE.out]; exact ownNil _ _ _ _, by rw [HE.out]; rfl, hB⟩
      | some f =>
        obtain ⟨bb, boff, bc, hv, hbI, hbc⟩ := HB.out
        subst hv
        have HNF := near_free ho.out.symm
        go_wp2_with fail
        refine (holeSlides_any W D n A c g f (some ⟨bb, boff, none⟩) bc _ (H.out.below hB) HNF hbI hbc).mono ?_; rintro e w6 ⟨SA, sm, sc, rfl, hS, hsl, hb6⟩
        have hB6 := below_next hB hb6
        have hw6 := hB.size
        go_wp2
        exact bodyPost_ret (v := .tuple #[.slice SA sm sc, .bool true]) (by simp [results, Tryz.results17, go_sem]) rfl ⟨SA, sm, sc, by rw [HE.out]; rfl, by rw [HE.out]; exact Joins.ownsRow_le hS hw6, by rw [HE.out]; exact hsl, hB6⟩
end Go.Proofs.YtdebjcempkgeaaaGreatDoor
