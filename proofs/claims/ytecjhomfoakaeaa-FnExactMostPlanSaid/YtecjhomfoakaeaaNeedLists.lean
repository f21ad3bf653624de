/-
  needLists of the program: what each car wants, and what it can take in each hour, in memory of its own.
-/
import Derived.Test.YtecjhomfoakaeaaCuts
import Derived.Test.YtecjhomfoakaeaaPlanOwn
namespace Go.Proofs.Ytecjhomfoakaeaa
open Go.ChangeShapes Go.WideShapes Go.ChangeAt Go.RowKit

set_option maxHeartbeats 4000000 in
theorem needLists_any (A : Option Addr) (n c : Nat) (ns : List N4) (w : World) (hn : n ≤ 5) (hx : NeedsAt w A n ns) :
    Calls Try.prog 21 #[.slice A n c] w fun e w' => ∃ R gs, e = .returned (.tuple #[slv w.heap.size n, slv R n]) ∧ w.heap.size < R ∧ Fill w' w.heap.size 3 1 n n (ic (wants ns)) ∧
      Fill w' R 23 1 n n (outc gs (rates ns)) ∧ RowsOwn w' (R + 1) w'.heap.size gs (rates ns) ∧ Below w.heap.size w w' := by
  have HL := Lib.hid hx.len
  obtain ⟨i0, hi, hz0, hz1, hz2⟩ := info_parts int_info
  obtain ⟨j0, hj, hy0, hy1, hy2⟩ := info_parts intsl_info
  have hmk : ∀ w : World, (Instr.makeSlice 23 (.int .i64 6) (.int .i64 6)).run Try.prog w = .ok (.slice (some ⟨w.heap.size, 0, none⟩) 6 6) (w.alloc (.cells #[.int .i64 0, .int .i64 0, .int .i64 0, .int .i64 0, .int .i64 0, .int .i64 0] 3)) := fun _ => by kernel_rfl
  go_enter Try.func21, Try.ntmps21
  go_wp2_with (first
    | (at_make; refine wpList_make_full _ rfl (.tmp 10) (.tmp 10) 23 rfl w.heap.size 3 i0 _ 1 Try.underlying23 hi hz0 hz1 .i64 .i64 _ _ n rfl rfl rfl rfl (by rw [hz2]; omega) (by unfold maxLen; omega) (Nat.le_refl _) ?_; intro w1 hown1 hg1)
    | (at_make; refine wpList_make_full _ rfl (.tmp 13) (.tmp 13) 25 rfl w1.heap.size 23 j0 _ 1 Try.underlying25 hj hy0 hy1 .i64 .i64 _ _ n rfl rfl rfl rfl (by rw [hy2]; omega) (by unfold maxLen; omega) (Nat.le_refl _) ?_; intro w2 hown2 hg2))
  have hB1 : Below w.heap.size w w1 := Below.grown (Below.refl _ w) hg1 (Nat.le_refl _) (by simp)
  have hB12 : Below w1.heap.size w1 w2 := Below.grown (Below.refl _ w1) hg2 (Nat.le_refl _) (by simp)
  have hF1 := (Fill.start hown1).belowN hB12 (Fill.start hown1).lt
  have hR1 : w.heap.size < w1.heap.size := (Fill.start hown1).lt
  have hF2 := Fill.start hown2
  have hB2 := below_next hB1 hB12
  clear hown1 hg1 hg2 hown2
  obtain ⟨R, HR⟩ : ∃ R, Hid (R = w1.heap.size) := ⟨_, rfl⟩
  rw [← HR.out] at hF2 hR1 ⊢
  clear hB12 hB1
  go_loopw [17] (fun i wr => ∃ (k : Nat) (gs : List Nat), k ≤ n ∧ i = .int .i64 k ∧ Fill wr w.heap.size 3 1 n k (ic ((wants ns).take k)) ∧ Fill wr R 23 1 n k (outc gs ((rates ns).take k)) ∧
      RowsOwn wr (R + 1) wr.heap.size gs ((rates ns).take k) ∧ Below w.heap.size w wr) (fun i _ => n - (intOf i).toNat)
  case atStart => exact ⟨0, [], Nat.zero_le _, rfl, by simpa [ic] using hF1, by simpa [outc] using hF2, by simpa using RowsOwn.nil _ _ _, hB2⟩
  case round =>
    obtain ⟨k, gs, hk, rfl, hfw, hfr, hro, hbw⟩ := hrel
    obtain ⟨wo, rfl⟩ : ∃ wo : World, wo = wr := ⟨_, rfl⟩
    clear hF1 hF2 hB2
    by_cases hlt : k < n
    · obtain ⟨x, b, off, HX, rfl, hb, hc0, hc1, hc2, hc3⟩ := (hx.below hbw).get hlt
      obtain ⟨u1, hu1⟩ := hfw.cell (j := k) (by omega)
      have hz1 := hfw.free k
      obtain ⟨u2, hu2⟩ := hfr.cell (j := k) (by omega)
      have hz2 := hfr.free k
      have hRl := hfr.lt
      have hBl := hfw.lt
      go_wp2
      generalize hW : World.alloc (World.alloc _ _) _ = W2
      have hs2 : W2.heap.size = wo.heap.size + 2 := by rw [← hW]; simp
      have hB2 : Below w.heap.size w W2 := by
        rw [← hW]
        exact (((hbw.setCell (Nat.le_refl _) _).setCell (by simp; omega) _).alloc (by simp; omega) _).alloc (by simp; omega) _
      have hF2 : Fill W2 w.heap.size 3 1 n (k + 1) (ic ((wants ns).take (k + 1))) := by
        rw [← hW, take_next (x := x.u) (by have h := HX.out; simp [wants, Hid, h])]
        simpa [ic] using (((hfw.next1 hlt (.int .i64 x.u)).far (p := ⟨R, k, none⟩) (by simp; omega) _).alloc _).alloc _
      have hG2 : Fill W2 R 23 1 n (k + 1) (outc (gs ++ [wo.heap.size + 1]) ((rates ns).take (k + 1))) := by
        rw [← hW, take_next (x := ratesOf x) (by have h := HX.out; simp [rates, Hid, h]), outc_snoc hro.len]
        simpa [slv, ratesOf_len] using (((hfr.far (p := ⟨w.heap.size, k, none⟩) (by simp; omega) (.int .i64 x.u)).next1 hlt (slv (wo.heap.size + 1) 6)).alloc _).alloc _
      have hO2 : RowsOwn W2 (R + 1) wo.heap.size gs ((rates ns).take k) := by
        rw [← hW]
        exact (((hro.low (p := ⟨w.heap.size, k, none⟩) (by simp; omega) _).low (p := ⟨R, k, none⟩) (by simp) _).alloc _).alloc _
      have hX2 : Whole W2 wo.heap.size 40 [.int .i64 x.f, .int .i64 x.t, .int .i64 x.r, .int .i64 x.u] := by
        rw [← hW]
        have h := (Whole.new ((wo.setCell ⟨w.heap.size, k, none⟩ (.int .i64 x.u)).setCell ⟨R, k, none⟩ (.slice (some ⟨wo.heap.size + 1, 0, none⟩) 6 6)) 40 [.int .i64 x.f, .int .i64 x.t, .int .i64 x.r, .int .i64 x.u]).alloc
          (.cells #[.int .i64 0, .int .i64 0, .int .i64 0, .int .i64 0, .int .i64 0, .int .i64 0] 3)
        simpa using h
      have hY2 : Fill W2 (wo.heap.size + 1) 3 1 6 0 (ic ((ratesOf x).take 0)) := by
        have h := Whole.new (((wo.setCell ⟨w.heap.size, k, none⟩ (.int .i64 x.u)).setCell ⟨R, k, none⟩ (.slice (some ⟨wo.heap.size + 1, 0, none⟩) 6 6)).alloc (.cells #[.int .i64 x.f, .int .i64 x.t, .int .i64 x.r, .int .i64 x.u] 40)) 3
          [.int .i64 0, .int .i64 0, .int .i64 0, .int .i64 0, .int .i64 0, .int .i64 0]
        have h2 : Whole W2 (wo.heap.size + 1) 3 [.int .i64 0, .int .i64 0, .int .i64 0, .int .i64 0, .int .i64 0, .int .i64 0] := by rw [← hW]; simpa using h
        exact h2.fill0 rfl
      clear hW hfw hfr hro hbw hc0 hc1 hc2 hc3 hu1 hz1 hu2 hz2
      have hcR : W2.cell? ⟨R, k, none⟩ = some (.slice (some ⟨wo.heap.size + 1, 0, none⟩) 6 6) := by
        refine hG2.at1 ?_
        have hk' : gs.length = k := by rw [hO2.len]; simp [rates]; have := HL.out; omega
        rw [outc_get (g := wo.heap.size + 1) (r := ratesOf x) (by rw [List.getElem?_append_right (by omega)]; simp [hk']) (by rw [List.getElem?_take, if_pos (by omega)]; have h := HX.out; simp [rates, h])]
        simp [slv, ratesOf_len]
      go_loopw [36] (fun i wr => ∃ h : Nat, h ≤ 6 ∧ i = .int .i64 h ∧ Fill wr (wo.heap.size + 1) 3 1 6 h (ic ((ratesOf x).take h)) ∧ Below (wo.heap.size + 1) W2 wr) (fun i _ => 6 - (intOf i).toNat)
      case atStart => exact ⟨0, Nat.zero_le _, rfl, hY2, Below.refl _ _⟩
      case round =>
        obtain ⟨h, hh, rfl, hfi, hbi⟩ := hrel
        have hs3 := hfi.lt
        by_cases hh6 : h < 6
        · have hcR' : wr.cell? ⟨R, k, none⟩ = some (.slice (some ⟨wo.heap.size + 1, 0, none⟩) 6 6) := (hbi.cell (p := ⟨R, k, none⟩) (by simp; omega)).trans hcR
          have hX3 := hX2.belowN hbi (by omega)
          have hx0 := hX3.cell 0
          have hx1 := hX3.cell 1
          have hx2 := hX3.cell 2
          have hx3 := hX3.cell 3
          simp only [List.getElem?_cons_zero, List.getElem?_cons_succ] at hx0 hx1 hx2 hx3
          obtain ⟨u, hu⟩ := hfi.cell (j := h) (by omega)
          have hz := hfi.free h
          have hi0 : (0 : Int) ≤ (h : Int) := by omega
          have hi1 : (h : Int) < 6 := by omega
          have hk0 : (0 : Int) ≤ (k : Int) := by omega
          have hk1 : (k : Int) < (n : Int) := by omega
          go_wp2
          go_region_held3 (fun w' => (∀ bb oo, bb < wo.heap.size + 1 → w'.cell? ⟨bb, oo, none⟩ = wr.cell? ⟨bb, oo, none⟩) ∧ Below (wo.heap.size + 1) wr w' ∧ wo.heap.size + 1 ≤ w'.heap.size)
            (first | exact keep_drew (keep_start (by omega)) | exact keep_next (by assumption) hb3 | exact keep_set (by assumption) (by simp) _)
            (first | (go_at_call 29; refine (rateIn_any _ _ _ _ _ _).mono ?_; rintro e w3 ⟨rfl, hb3⟩; have hu3 : w3.cell? ⟨wo.heap.size + 1, h, none⟩ = some u := (hb3.cell (p := ⟨wo.heap.size + 1, h, none⟩) (by simp; omega)).trans hu; have hz3 : w3.frozen? ⟨wo.heap.size + 1, h, none⟩ = false := (hb3.frozen (p := ⟨wo.heap.size + 1, h, none⟩) (by simp; omega)).trans hz))
          have hb4 : Below wr.heap.size wr w3 := ⟨hb3.os, hb3.tape, hb3.output, hb3.size, hb3.block⟩
          go_wp2
          go_roundw
          case rel =>
            refine ⟨h + 1, by omega, by go_num, ?_, ?_⟩
            · rw [take_next (x := rateI x.f x.t x.r x.u (h : Int)) (ratesOf_get x hh6)]
              simpa [ic] using (hfi.belowN hb4 (by omega)).next1 hh6 (.int .i64 (rateI x.f x.t x.r x.u (h : Int)))
            · exact hbi.trans ((hb4.mono (by omega)).setCell (by simp) _)
          case measure => simp [intOf]; omega
        · obtain rfl : h = 6 := by omega
          go_wp2
          go_roundw
          case rel =>
            refine ⟨k + 1, gs ++ [wo.heap.size + 1], by omega, by go_num, hF2.belowN hbi (by omega), hG2.belowN hbi (by omega), ?_, hB2.trans (hbi.mono (by omega))⟩
            rw [take_next (x := ratesOf x) (by have h := HX.out; simp [rates, Hid, h])]
            refine RowsOwn.top ((hO2.belowN hbi (by omega)).snoc (by omega) (by omega) ?_) (by omega)
            have hw6 := hfi.whole rfl
            rw [ic_flat, List.take_of_length_le (by rw [ratesOf_len]; omega)] at hw6
            exact hw6
          case measure => simp [intOf]; omega
    · obtain rfl : k = n := by omega
      go_wp2
      go_ret2
      have hlw : (wants ns).length = k := by simp [wants]; exact HL.out
      have hlr : (rates ns).length = k := by simp [rates]; exact HL.out
      rw [take_all hlw (Nat.le_refl _)] at hfw
      rw [take_all hlr (Nat.le_refl _)] at hfr hro
      exact ⟨R, gs, rfl, hR1, hfw, hfr, hro, hbw⟩
end Go.Proofs.Ytecjhomfoakaeaa
