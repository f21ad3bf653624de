/-
  The best list by the program: its search through all lists, and GiveBest.
-/
import Derived.Test.YtmmaeninlhbaaaaDoorMade
import Derived.Test.YtmmaeninlhbaaaaDoorSrchP
import Derived.Lib.SliceRun
namespace Go.Proofs.YtmmaeninlhbaaaaDoor
open Go.ChangeShapes Go.WideShapes Go.ChangeAt Go.RowKit

set_option maxHeartbeats 2000000 in
theorem clone_any (N n : Nat) (xs : List Int) (w : World) (hn : n ≤ 1048576) (hl : xs.length = n) (hx : Whole w N 3 (xs.map (Value.int .i64))) :
    Calls Tryd.prog 69 #[.slice (some ⟨N, 0, none⟩) n n] w fun e w' => ∃ v', e = .returned v' ∧ w'.ownsRow w.heap.size 3 1 v' n (xs.map (Value.int .i64)) ∧ Below w.heap.size w w' := by
  have ho := (Whole.own (base := 0) (rs := ic xs) (n := n) (sz := 1) (by rw [ic_flat]; exact hx) (by simp [ic, hl]) (by intro r hr; simp [ic] at hr; obtain ⟨x, _, rfl⟩ := hr; rfl) (Nat.zero_le _) (by unfold maxLen; omega)).own
  rw [ic_flat] at ho
  have hbs : ∀ w : World, (Instr.buildSlice 27 0 #[]).run Tryd.prog w = .ok (.slice (some ⟨w.heap.size, 0, none⟩) 0 0) (w.alloc (.cells #[] 3)) := fun _ => by kernel_rfl
  have q : ∀ (w : World) (a : Option Addr) (n c n' c' : Nat), (binOp .eql 27 (.slice a n c) (.slice none n' c')).run Tryd.prog w = .ok (.bool a.isNone) w := fun w a n c n' c' => Lib.run_eql_slice_nil w _ _ a n c n' c' Tryd.underlying27
  clear hl
  go_enter Tryd.func69, Tryd.ntmps69
  go_wp2_with (at_builtin; refine wpList_copy rfl (.tmp 5) (.tmp 6) rfl ho rfl rfl hn ?_; intro v5 w5 hown5 hb5)
  go_ret
  exact ⟨_, rfl, hown5, hb5⟩

set_option maxRecDepth 100000 in
set_option maxHeartbeats 8000000 in
theorem from_any (A : Option Addr) (n c : Nat) (cs : List C4) (P : Option Addr) (m pc : Nat) (ps : List P3) (D N : Nat) (w0 : World) (hn : n ≤ c ∧ c ≤ 9223372036854775807) (hx : CarsAt w0 A n cs) (hp : PlacesAt w0 P m ps) (HX0 : Hid (cs.length = n)) (HP0 : Hid (ps.length = m)) :
    ∀ (f l : Nat) (g now : List Int) (o : Option (List Int)) (mg wg : Int) (w : World), Hid (g.length = l) → Hid (l + f = n) → Hid (OkPre cs ps g) → Hid (mg = manyL g) → Hid (wg = wasteI cs ps g) → Below w0.heap.size w0 w → Srch w0.heap.size w D N A n c P m pc cs ps now g o →
    Calls Tryd.prog 53 #[.pointer (some ⟨D, 0, none⟩), .int .i64 (l : Int), .int .i64 mg, .int .i64 wg] w (FromR w0.heap.size w0 w D N A n c P m pc cs ps g (some (pick cs ps o (bestL cs ps f g)))) := by
  intro f
  induction f with
  | zero =>
    intro l g now o mg wg w HGL HLN HOK HMG HWG hbw hS
    obtain rfl : l = n := by have := HLN.out; omega
    obtain ⟨bv, mv, wv, hW, hB⟩ := hS.blk
    have hNw := hS.nowAt
    have hnl := hS.nlen
    have hl6 : l ≤ 6 := by have := carsB_len HOK.out.cars; have := HX0.out; omega
    obtain rfl : now = g := by have h1 := hS.pre; have h2 := HGL.out; rw [List.take_of_length_le (by omega)] at h1; exact h1
    have HNL := Lib.hid hnl
    clear hnl
    obtain ⟨rr1, rr2, rr3, rr4, rr5⟩ := HOK.out.range
    rw [← HMG.out] at rr3 rr4
    rw [← HWG.out] at rr1 rr2
    have hD0 : w.cell? ⟨D, 0, none⟩ = some (.slice A l c) := hW.cell 0
    have hD2 : w.cell? ⟨D, 2, none⟩ = some (.slice (some ⟨N, 0, none⟩) l l) := hW.cell 2
    have hD9 : w.cell? ⟨D, 9, none⟩ = some bv := hW.cell 9
    have hD10 : w.cell? ⟨D, 10, none⟩ = some (.int .i64 mv) := hW.cell 10
    have hD11 : w.cell? ⟨D, 11, none⟩ = some (.int .i64 wv) := hW.cell 11
    have HS := Lib.hid hS
    have keep : ∀ (b : List Int) (v' : Value) (w1 : World), OkPre cs ps now ∧ now.length = cs.length → w1.ownsRow w.heap.size 3 1 v' l (now.map (Value.int .i64)) → Below w.heap.size w w1 →
        Srch w0.heap.size (((w1.setCell ⟨D, 9, none⟩ v').setCell ⟨D, 10, none⟩ (.int .i64 mg)).setCell ⟨D, 11, none⟩ (.int .i64 wg)) D N A l c P m pc cs ps now now (some now) ∧ Below w0.heap.size w0 (((w1.setCell ⟨D, 9, none⟩ v').setCell ⟨D, 10, none⟩ (.int .i64 mg)).setCell ⟨D, 11, none⟩ (.int .i64 wg)) ∧ Fr D N w (((w1.setCell ⟨D, 9, none⟩ v').setCell ⟨D, 10, none⟩ (.int .i64 mg)).setCell ⟨D, 11, none⟩ (.int .i64 wg)) := by
      intro b v' w1 hok ho hb1
      have hf1 : Fr D N w1 (((w1.setCell ⟨D, 9, none⟩ v').setCell ⟨D, 10, none⟩ (.int .i64 mg)).setCell ⟨D, 11, none⟩ (.int .i64 wg)) := (((Fr.refl D N w1).set (.inl rfl) _).set (.inl rfl) _).set (.inl rfl) _
      have hDl := hW.lt
      have hNl := hNw.lt
      have hnd := hS.nd
      refine ⟨⟨⟨v', mg, wg, ?_, ?_⟩, ?_, hS.nlen, hS.pre, hS.nd, hS.bD, hS.bN, ?_⟩, ?_, ((Fr.refl D N w).below hb1).trans hf1⟩
      · have h := (((hW.below hb1).set_ 9 v').set_ 10 (.int .i64 mg)).set_ 11 (.int .i64 wg)
        rw [srchL_best] at h; exact h
      · rw [HMG.out, HWG.out]
        exact (BestM.mk (b := now) ho (by have := hbw.size; omega) hDl hNl).fr (by rw [HMG.out, HWG.out] at hf1; exact hf1)
      · exact (((hNw.below hb1).far (p := ⟨D, 9, none⟩) (fun h => hnd h.symm) _).far (p := ⟨D, 10, none⟩) (fun h => hnd h.symm) _).far (p := ⟨D, 11, none⟩) (fun h => hnd h.symm) _
      · intro b hb; injection hb with hb; subst hb; exact hok
      · exact (((hbw.trans (hb1.mono hbw.size)).setCell hS.bD _).setCell hS.bD _).setCell hS.bD _
    have HKeep := Lib.hid keep
    clear keep hS
    have HFull : Hid (OkPre cs ps now ∧ now.length = cs.length) := Lib.hid ⟨HOK.out, by have := HX0.out; have := HNL.out; omega⟩
    cases o with
    | none =>
      obtain ⟨rfl, rfl, rfl⟩ := hB
      have ht : decide (-1 < mg) = true := by simp; omega
      go_enter Tryd.func53, Tryd.ntmps53
      go_wp2_with fail
      refine (clone_any N l now _ (by omega) HNL.out hNw).mono ?_; rintro e w1 ⟨v', rfl, ho, hb1⟩
      obtain ⟨VA, vc, rfl, _, _⟩ := (own_ints ho).form
      have hW1 := hW.below hb1
      have hE9 : w1.cell? ⟨D, 9, none⟩ = some (.slice none 0 0) := hW1.cell 9
      have hE10 : w1.cell? ⟨D, 10, none⟩ = some (.int .i64 (-1)) := hW1.cell 10
      have hE11 : w1.cell? ⟨D, 11, none⟩ = some (.int .i64 0) := hW1.cell 11
      have hF9 := hW1.free 9
      have hF10 := hW1.free 10
      have hF11 := hW1.free 11
      go_wp2
      refine bodyPost_ret (results_none rfl _ _ _) rfl ?_
      exact ⟨rfl, now, HKeep.out now _ _ HFull.out ho hb1⟩
    | some b =>
      have hbest : pick cs ps (some b) (bestL cs ps 0 now) = if sc cs ps b < sc cs ps now then now else b := rfl
      have HBS := Lib.hid hbest
      clear hbest
      have hok := HS.out.ok b rfl
      obtain ⟨ss1, ss2, ss3, ss4, ss5⟩ := hok.1.range
      have hB' := hB
      obtain ⟨hm1, hm2, -⟩ := hB
      have HM1 := Lib.hid hm1
      have HM2 := Lib.hid hm2
      rw [← hm1] at ss3 ss4
      rw [← hm2] at ss1 ss2
      clear hm1 hm2 hok
      by_cases hbt : sc cs ps b < sc cs ps now
      · have hgt : mv < mg ∨ (mg = mv ∧ wg < wv) := by
          have h := hbt
          unfold sc at h
          rw [← HM1.out, ← HM2.out, ← HMG.out, ← HWG.out] at h
          omega
        have HBT : Hid (pick cs ps (some b) (bestL cs ps 0 now) = now) := Lib.hid (by rw [HBS.out, if_pos hbt])
        clear hbt
        rw [HBT.out]
        rcases hgt with h1 | ⟨h1, h2⟩
        · have hd1 : decide (mv < mg) = true := by simpa using h1
          go_enter Tryd.func53, Tryd.ntmps53
          go_wp2_with fail
          refine (clone_any N l now _ (by omega) HNL.out hNw).mono ?_; rintro e w1 ⟨v', rfl, ho, hb1⟩
          obtain ⟨VA, vc, rfl, _, _⟩ := (own_ints ho).form
          have hW1 := hW.below hb1
          have hE9 : w1.cell? ⟨D, 9, none⟩ = some bv := hW1.cell 9
          have hE10 : w1.cell? ⟨D, 10, none⟩ = some (.int .i64 mv) := hW1.cell 10
          have hE11 : w1.cell? ⟨D, 11, none⟩ = some (.int .i64 wv) := hW1.cell 11
          have hF9 := hW1.free 9
          have hF10 := hW1.free 10
          have hF11 := hW1.free 11
          go_wp2
          refine bodyPost_ret (results_none rfl _ _ _) rfl ?_
          exact ⟨rfl, now, HKeep.out now _ _ HFull.out ho hb1⟩
        · subst h1
          have hd2 : decide (wg < wv) = true := by simpa using h2
          go_enter Tryd.func53, Tryd.ntmps53
          go_wp2_with fail
          refine (clone_any N l now _ (by omega) HNL.out hNw).mono ?_; rintro e w1 ⟨v', rfl, ho, hb1⟩
          obtain ⟨VA, vc, rfl, _, _⟩ := (own_ints ho).form
          have hW1 := hW.below hb1
          have hE9 : w1.cell? ⟨D, 9, none⟩ = some bv := hW1.cell 9
          have hE10 : w1.cell? ⟨D, 10, none⟩ = some (.int .i64 mg) := hW1.cell 10
          have hE11 : w1.cell? ⟨D, 11, none⟩ = some (.int .i64 wv) := hW1.cell 11
          have hF9 := hW1.free 9
          have hF10 := hW1.free 10
          have hF11 := hW1.free 11
          go_wp2
          refine bodyPost_ret (results_none rfl _ _ _) rfl ?_
          exact ⟨rfl, now, HKeep.out now _ _ HFull.out ho hb1⟩
      · have hle : ¬ mv < mg ∧ (mg = mv → ¬ wg < wv) := by
          have h := hbt
          unfold sc at h
          rw [← HM1.out, ← HM2.out, ← HMG.out, ← HWG.out] at h
          omega
        have HBT : Hid (pick cs ps (some b) (bestL cs ps 0 now) = b) := Lib.hid (by rw [HBS.out, if_neg hbt])
        clear hbt
        rw [HBT.out]
        obtain ⟨h1, h2⟩ := hle
        have hd1 : decide (mv < mg) = false := by simpa using h1
        by_cases he : mg = mv
        · have h2' := h2 he
          subst he
          have hd2 : decide (wg < wv) = false := by simpa using h2'
          go_enter Tryd.func53, Tryd.ntmps53
          go_wp2
          refine bodyPost_ret (results_none rfl _ _ _) rfl ?_
          exact ⟨rfl, now, HS.out, hbw, Fr.refl _ _ _⟩
        · clear h2
          go_enter Tryd.func53, Tryd.ntmps53
          go_wp2
          refine bodyPost_ret (results_none rfl _ _ _) rfl ?_
          exact ⟨rfl, now, HS.out, hbw, Fr.refl _ _ _⟩
  | succ f ih =>
    intro l g now o mg wg w HGL HLN HOK HMG HWG hbw hS
    have IH := Lib.hid ih
    clear ih
    obtain ⟨hnc, hcm⟩ := hn
    have hln : l < n := by have := HLN.out; omega
    have hm6 : m ≤ 6 := by have := placesB_len HOK.out.places; have := HP0.out; omega
    have hn6 : n ≤ 6 := by have := carsB_len HOK.out.cars; have := HX0.out; omega
    have hlne : ((l : Int) == (n : Int)) = false := by simp; omega
    have hlne2 : (l == n) = false := by simp; omega
    have hlne3 : ¬ (l : Int) = (n : Int) := by omega
    obtain ⟨bv, mv, wv, hW, -⟩ := hS.blk
    have hD0 : w.cell? ⟨D, 0, none⟩ = some (.slice A n c) := hW.cell 0
    have hD1 : w.cell? ⟨D, 1, none⟩ = some (.slice P m pc) := hW.cell 1
    have hrg := HOK.out.range
    rw [← HMG.out, ← HWG.out, HGL.out] at hrg
    obtain ⟨rr1, rr2, rr3, rr4, rr5⟩ := hrg
    go_enter Tryd.func53, Tryd.ntmps53
    go_wp2
    clear hD0 hD1 hW
    go_loopw [60] (fun i wr => ∃ (k : Nat) (now' : List Int), k ≤ m ∧ i = .int .i64 k ∧ Srch w0.heap.size wr D N A n c P m pc cs ps now' g (pickO cs ps o (kidsL cs ps f g k)) ∧ Below w0.heap.size w0 wr ∧ Fr D N w wr) (fun i _ => m - (intOf i).toNat)
    case atStart => exact ⟨0, now, Nat.zero_le _, rfl, hS, hbw, Fr.refl _ _ _⟩
    case round =>
      obtain ⟨k, now', hk, rfl, hSr, hbr, hfr⟩ := hrel
      clear hS hbw
      obtain ⟨wo, rfl⟩ : ∃ wo : World, wo = wr := ⟨_, rfl⟩
      have hDN := hSr.nd
      have hND : N ≠ D := fun h => hDN h.symm
      by_cases hlt : k < m
      · obtain ⟨x, b, off, HX, rfl, hb, -, -, -, -⟩ := (hx.below hbr).get hln
        obtain ⟨y, qb, qoff, HY, rfl, hqb, hd0, hd1, hd2⟩ := (hp.below hbr).get hlt
        have hk0 : (0 : Int) ≤ (k : Int) := by omega
        have hk1 : (k : Int) < (m : Int) := by omega
        go_wp2
        have hMw : Whole (wo.alloc (.cells #[.int .i64 y.f, .int .i64 y.t, .int .i64 y.r] 48)) wo.heap.size 48 [.int .i64 y.f, .int .i64 y.t, .int .i64 y.r] := Whole.new wo _ _
        have hbb : Below wo.heap.size wo (wo.alloc (.cells #[.int .i64 y.f, .int .i64 y.t, .int .i64 y.r] 48)) := (Below.refl _ _).alloc (Nat.le_refl _) _
        generalize wo.alloc (.cells #[.int .i64 y.f, .int .i64 y.t, .int .i64 y.r] 48) = wb at hMw hbb ⊢
        obtain ⟨M, HM⟩ : ∃ M, Hid (M = wo.heap.size) := ⟨_, rfl⟩
        rw [← HM.out] at hMw ⊢
        have hMD : M ≠ D := by
          obtain ⟨_, _, _, h1, _⟩ := hSr.blk
          have := h1.lt; have := HM.out; omega
        have hMN : M ≠ N := by have := hSr.nowAt.lt; have := HM.out; omega
        have hSb := hSr.below hbb
        have hbwb := below_next hbr hbb
        have hfb := hfr.below hbb
        clear hd0 hd1 hd2 hqb hb hSr hbr hfr hbb
        obtain ⟨x', b', off', HX', hA', hb, hc0, hc1, hc2, hc3⟩ := (hx.below hbwb).get hln
        cases hA'
        obtain rfl : x = x' := by have h1 := HX.out; have h2 := HX'.out; rw [h1] at h2; injection h2
        clear HX'
        obtain ⟨bv, mv, wv, hWb, -⟩ := hSb.blk
        have hk6 : k < 6 := by omega
        have hDl := hWb.lt
        have hMl := hMw.lt
        have hE0 : wb.cell? ⟨D, 0, none⟩ = some (.slice (some ⟨b, off, none⟩) n c) := hWb.cell 0
        have hT0 := (hWb.cell (3 + k)).trans (srchL_taken hk6)
        have hm0 := hMw.cell 0
        have hm1 := hMw.cell 1
        have hm2 := hMw.cell 2
        simp only [List.getElem?_cons_zero, List.getElem?_cons_succ] at hm0 hm1 hm2
        have HXG : Hid (cs[g.length]? = some x) := Lib.hid (by rw [HGL.out]; exact HX.out)
        have HCB := Lib.hid (candB_get HXG HY)
        have hl0 : (0 : Int) ≤ (l : Int) := by omega
        have hl1 : (l : Int) < (n : Int) := by omega
        have hk7 : (k : Int) < 6 := by omega
        cases hh : hasB g (k : Int)
        · have hhas := Lib.hid hh
          rw [hh] at hT0
          have hT := hT0
          clear hh hT0
          cases hf : fitP x y
          · have hfit := Lib.hid hf
            clear hf
            refine wp_region_held_drew (S := (fun w' => w'.cell? ⟨D, 3 + k, none⟩ = some (.bool false) ∧ w'.cell? ⟨D, 0, none⟩ = some (.slice (some ⟨b, off, none⟩) n c) ∧ w'.cell? ⟨b, off + l * 4, none⟩ = some (.int .i64 x.f) ∧ w'.cell? ⟨b, off + l * 4 + 1, none⟩ = some (.int .i64 x.t) ∧ w'.cell? ⟨b, off + l * 4 + 2, none⟩ = some (.int .i64 x.r) ∧ w'.cell? ⟨b, off + l * 4 + 3, none⟩ = some (.int .i64 x.u) ∧ w'.cell? ⟨M, 0, none⟩ = some (.int .i64 y.f) ∧ w'.cell? ⟨M, 1, none⟩ = some (.int .i64 y.t) ∧ w'.cell? ⟨M, 2, none⟩ = some (.int .i64 y.r) ∧ Below wb.heap.size wb w')) (by kernel_rfl) ?_ (fun hHeld => ?_)
            · (try dsimp only); (first | exact ⟨hT, hE0, hc0, hc1, hc2, hc3, hm0, hm1, hm2, (Below.refl _ _).drew⟩ | (obtain ⟨k0, k1, k2, k3, k4, k5, k6, k7, k8, k9⟩ := hHeld; exact ⟨(hb1.cell (Nat.lt_of_lt_of_le hDl k9.size)).trans k0, (hb1.cell (Nat.lt_of_lt_of_le hDl k9.size)).trans k1, (hb1.cell (Nat.lt_of_lt_of_le hb k9.size)).trans k2, (hb1.cell (Nat.lt_of_lt_of_le hb k9.size)).trans k3, (hb1.cell (Nat.lt_of_lt_of_le hb k9.size)).trans k4, (hb1.cell (Nat.lt_of_lt_of_le hb k9.size)).trans k5, (hb1.cell (Nat.lt_of_lt_of_le hMl k9.size)).trans k6, (hb1.cell (Nat.lt_of_lt_of_le hMl k9.size)).trans k7, (hb1.cell (Nat.lt_of_lt_of_le hMl k9.size)).trans k8, k9.trans (hb1.mono k9.size)⟩))
            refine wpAnyH_take (i := 0) (v := ?vq1_0) (by simp only [List.getElem?_toArray, List.getElem?_cons_zero]; rfl) (by kernel_rfl) (by kernel_rfl) (by kernel_rfl) (by exact fun _ _ _ h => h) (Or.inl ⟨by rfl, ?hq1_0⟩) hHeld ?rq1_0
            case hq1_0 => (intro w hSw; (try dsimp only at hSw); go_simp; (try with_reducible rfl))
            try simp only [put_laws]
            refine wpAnyH_take (i := 1) (v := ?vq1_1) (by simp only [List.getElem?_toArray, List.getElem?_cons_succ, List.getElem?_cons_zero]; rfl) (by kernel_rfl) (by kernel_rfl) (by kernel_rfl) (by exact fun _ _ _ h => h) (Or.inl ⟨by rfl, ?hq1_1⟩) hHeld ?rq1_1
            case hq1_1 => (intro w hSw; (try dsimp only at hSw); go_simp; (try with_reducible rfl))
            try simp only [put_laws]
            refine wpAnyH_take (i := 2) (v := ?vq1_2) (by simp only [List.getElem?_toArray, List.getElem?_cons_succ, List.getElem?_cons_zero]; rfl) (by kernel_rfl) (by kernel_rfl) (by kernel_rfl) (by exact fun _ _ _ h => h) (Or.inl ⟨by rfl, ?hq1_2⟩) hHeld ?rq1_2
            case hq1_2 => (intro w hSw; (try dsimp only at hSw); go_simp; (try with_reducible rfl))
            try simp only [put_laws]
            refine wpAnyH_take (i := 3) (v := ?vq1_3) (by simp only [List.getElem?_toArray, List.getElem?_cons_succ, List.getElem?_cons_zero]; rfl) (by kernel_rfl) (by kernel_rfl) (by kernel_rfl) (by exact fun _ _ _ h => h) (Or.inl ⟨by rfl, ?hq1_3⟩) hHeld ?rq1_3
            case hq1_3 => (intro w hSw; (try dsimp only at hSw); go_simp; (try with_reducible rfl))
            try simp only [put_laws]
            refine wpAnyH_take (i := 4) (v := ?vq1_4) (by simp only [List.getElem?_toArray, List.getElem?_cons_succ, List.getElem?_cons_zero]; rfl) (by kernel_rfl) (by kernel_rfl) (by kernel_rfl) (by exact fun _ _ _ h => h) (Or.inl ⟨by rfl, ?hq1_4⟩) hHeld ?rq1_4
            case hq1_4 => (intro w hSw; (try dsimp only at hSw); go_simp; (try with_reducible rfl))
            try simp only [put_laws]
            refine wpAnyH_take (i := 5) (v := ?vq1_5) (by simp only [List.getElem?_toArray, List.getElem?_cons_succ, List.getElem?_cons_zero]; rfl) (by kernel_rfl) (by kernel_rfl) (by kernel_rfl) (by exact fun _ _ _ h => h) (Or.inl ⟨by rfl, ?hq1_5⟩) hHeld ?rq1_5
            case hq1_5 => (intro w hSw; (try dsimp only at hSw); go_simp; (try with_reducible rfl))
            try simp only [put_laws]
            refine wpAnyH_take (i := 6) (v := ?vq1_6) (by simp only [List.getElem?_toArray, List.getElem?_cons_succ, List.getElem?_cons_zero]; rfl) (by kernel_rfl) (by kernel_rfl) (by kernel_rfl) (by exact fun _ _ _ h => h) (Or.inl ⟨by rfl, ?hq1_6⟩) hHeld ?rq1_6
            case hq1_6 => (intro w hSw; (try dsimp only at hSw); go_simp; (try with_reducible rfl))
            try simp only [put_laws]
            refine wpAnyH_take (i := 7) (v := ?vq1_7) (by simp only [List.getElem?_toArray, List.getElem?_cons_succ, List.getElem?_cons_zero]; rfl) (by kernel_rfl) (by kernel_rfl) (by kernel_rfl) (by exact fun _ _ _ h => h) (Or.inl ⟨by rfl, ?hq1_7⟩) hHeld ?rq1_7
            case hq1_7 => (intro w hSw; (try dsimp only at hSw); go_simp; (try with_reducible rfl))
            try simp only [put_laws]
            refine wpAnyH_take (i := 8) (v := ?vq1_8) (by simp only [List.getElem?_toArray, List.getElem?_cons_succ, List.getElem?_cons_zero]; rfl) (by kernel_rfl) (by kernel_rfl) (by kernel_rfl) (by exact fun _ _ _ h => h) (Or.inl ⟨by rfl, ?hq1_8⟩) hHeld ?rq1_8
            case hq1_8 => (intro w hSw; (try dsimp only at hSw); go_simp; (try with_reducible rfl))
            try simp only [put_laws]
            refine wpAnyH_take (i := 9) (v := ?vq1_9) (by simp only [List.getElem?_toArray, List.getElem?_cons_succ, List.getElem?_cons_zero]; rfl) (by kernel_rfl) (by kernel_rfl) (by kernel_rfl) (by exact fun _ _ _ h => h) (Or.inl ⟨by rfl, ?hq1_9⟩) hHeld ?rq1_9
            case hq1_9 => (intro w hSw; (try dsimp only at hSw); go_simp; (try with_reducible rfl))
            try simp only [put_laws]
            refine wpAnyH_take (i := 10) (v := ?vq1_10) (by simp only [List.getElem?_toArray, List.getElem?_cons_succ, List.getElem?_cons_zero]; rfl) (by kernel_rfl) (by kernel_rfl) (by kernel_rfl) (by exact fun _ _ _ h => h) (Or.inl ⟨by rfl, ?hq1_10⟩) hHeld ?rq1_10
            case hq1_10 => (intro w hSw; (try dsimp only at hSw); go_simp; (try with_reducible rfl))
            try simp only [put_laws]
            refine wpAnyH_take (i := 11) (v := ?vq1_11) (by simp only [List.getElem?_toArray, List.getElem?_cons_succ, List.getElem?_cons_zero]; rfl) (by kernel_rfl) (by kernel_rfl) (by kernel_rfl) (by exact fun _ _ _ h => h) (Or.inl ⟨by rfl, ?hq1_11⟩) hHeld ?rq1_11
            case hq1_11 => (intro w hSw; (try dsimp only at hSw); go_simp; (try with_reducible rfl))
            try simp only [put_laws]
            refine wpAnyH_take (i := 12) (v := ?vq1_12) (by simp only [List.getElem?_toArray, List.getElem?_cons_succ, List.getElem?_cons_zero]; rfl) (by kernel_rfl) (by kernel_rfl) (by kernel_rfl) (by exact fun _ _ _ h => h) (Or.inl ⟨by rfl, ?hq1_12⟩) hHeld ?rq1_12
            case hq1_12 => (intro w hSw; (try dsimp only at hSw); go_simp; (try with_reducible rfl))
            try simp only [put_laws]
            refine wpAnyH_take (i := 13) (v := ?vq1_13) (by simp only [List.getElem?_toArray, List.getElem?_cons_succ, List.getElem?_cons_zero]; rfl) (by kernel_rfl) (by kernel_rfl) (by kernel_rfl) (by exact fun _ _ _ h => h) (Or.inl ⟨by rfl, ?hq1_13⟩) hHeld ?rq1_13
            case hq1_13 => (intro w hSw; (try dsimp only at hSw); go_simp; (try with_reducible rfl))
            try simp only [put_laws]
            refine wpAnyH_take (i := 14) (v := ?vq1_14) (by simp only [List.getElem?_toArray, List.getElem?_cons_succ, List.getElem?_cons_zero]; rfl) (by kernel_rfl) (by kernel_rfl) (by kernel_rfl) (by exact fun _ _ _ h => h) (Or.inl ⟨by rfl, ?hq1_14⟩) hHeld ?rq1_14
            case hq1_14 => (intro w hSw; (try dsimp only at hSw); go_simp; (try with_reducible rfl))
            try simp only [put_laws]
            refine wpAnyH_take (i := 15) (v := ?vq1_15) (by simp only [List.getElem?_toArray, List.getElem?_cons_succ, List.getElem?_cons_zero]; rfl) (by kernel_rfl) (by kernel_rfl) (by kernel_rfl) (by exact fun _ _ _ h => h) (Or.inl ⟨by rfl, ?hq1_15⟩) hHeld ?rq1_15
            case hq1_15 => (intro w hSw; (try dsimp only at hSw); go_simp; (try with_reducible rfl))
            try simp only [put_laws]
            refine wpAnyH_ready (rs := [16]) (by kernel_rfl) (by simp) ?_
            refine AllReadyH.cons (by simp only [List.getElem?_toArray, List.getElem?_cons_succ, List.getElem?_cons_zero]; rfl) (fun K hK => ?_) AllReadyH.nil
            go_simp
            ((with_reducible refine (fits_no _ _ _ hfit.out).mono ?_); rintro e w1 ⟨rfl, hb1⟩)
            refine hK.out _ _ ?_ (fun hHeld => ?_)
            · (try dsimp only); (first | exact ⟨hT, hE0, hc0, hc1, hc2, hc3, hm0, hm1, hm2, (Below.refl _ _).drew⟩ | (obtain ⟨k0, k1, k2, k3, k4, k5, k6, k7, k8, k9⟩ := hHeld; exact ⟨(hb1.cell (Nat.lt_of_lt_of_le hDl k9.size)).trans k0, (hb1.cell (Nat.lt_of_lt_of_le hDl k9.size)).trans k1, (hb1.cell (Nat.lt_of_lt_of_le hb k9.size)).trans k2, (hb1.cell (Nat.lt_of_lt_of_le hb k9.size)).trans k3, (hb1.cell (Nat.lt_of_lt_of_le hb k9.size)).trans k4, (hb1.cell (Nat.lt_of_lt_of_le hb k9.size)).trans k5, (hb1.cell (Nat.lt_of_lt_of_le hMl k9.size)).trans k6, (hb1.cell (Nat.lt_of_lt_of_le hMl k9.size)).trans k7, (hb1.cell (Nat.lt_of_lt_of_le hMl k9.size)).trans k8, k9.trans (hb1.mono k9.size)⟩))
            clear hK K
            try simp only [put_laws]
            refine wpAnyH_take (i := 17) (v := ?vq1_17) (by simp only [List.getElem?_toArray, List.getElem?_cons_succ, List.getElem?_cons_zero]; rfl) (by kernel_rfl) (by kernel_rfl) (by kernel_rfl) (by exact fun _ _ _ h => h) (Or.inl ⟨by rfl, ?hq1_17⟩) hHeld ?rq1_17
            case hq1_17 => (intro w hSw; (try dsimp only at hSw); go_simp; (try with_reducible rfl))
            try simp only [put_laws]
            refine wpAnyH_done (by kernel_rfl) ?_ _
            have hbK := hHeld.2.2.2.2.2.2.2.2.2
            go_wp2
            go_roundw
            case rel => exact ⟨k + 1, now', by omega, by go_num, (hSb.below hbK).as (by rw [kidsL_no (by rw [HCB.out, hfit.out]; rfl)]), below_next hbwb hbK, hfb.below hbK⟩
            case measure => simp [intOf]; omega
          · have hfit := Lib.hid hf
            clear hf
            refine wp_region_held_drew (S := (fun w' => w'.cell? ⟨D, 3 + k, none⟩ = some (.bool false) ∧ w'.cell? ⟨D, 0, none⟩ = some (.slice (some ⟨b, off, none⟩) n c) ∧ w'.cell? ⟨b, off + l * 4, none⟩ = some (.int .i64 x.f) ∧ w'.cell? ⟨b, off + l * 4 + 1, none⟩ = some (.int .i64 x.t) ∧ w'.cell? ⟨b, off + l * 4 + 2, none⟩ = some (.int .i64 x.r) ∧ w'.cell? ⟨b, off + l * 4 + 3, none⟩ = some (.int .i64 x.u) ∧ w'.cell? ⟨M, 0, none⟩ = some (.int .i64 y.f) ∧ w'.cell? ⟨M, 1, none⟩ = some (.int .i64 y.t) ∧ w'.cell? ⟨M, 2, none⟩ = some (.int .i64 y.r) ∧ Below wb.heap.size wb w')) (by kernel_rfl) ?_ (fun hHeld => ?_)
            · (try dsimp only); (first | exact ⟨hT, hE0, hc0, hc1, hc2, hc3, hm0, hm1, hm2, (Below.refl _ _).drew⟩ | (obtain ⟨k0, k1, k2, k3, k4, k5, k6, k7, k8, k9⟩ := hHeld; exact ⟨(hb1.cell (Nat.lt_of_lt_of_le hDl k9.size)).trans k0, (hb1.cell (Nat.lt_of_lt_of_le hDl k9.size)).trans k1, (hb1.cell (Nat.lt_of_lt_of_le hb k9.size)).trans k2, (hb1.cell (Nat.lt_of_lt_of_le hb k9.size)).trans k3, (hb1.cell (Nat.lt_of_lt_of_le hb k9.size)).trans k4, (hb1.cell (Nat.lt_of_lt_of_le hb k9.size)).trans k5, (hb1.cell (Nat.lt_of_lt_of_le hMl k9.size)).trans k6, (hb1.cell (Nat.lt_of_lt_of_le hMl k9.size)).trans k7, (hb1.cell (Nat.lt_of_lt_of_le hMl k9.size)).trans k8, k9.trans (hb1.mono k9.size)⟩))
            refine wpAnyH_take (i := 0) (v := ?vq2_0) (by simp only [List.getElem?_toArray, List.getElem?_cons_zero]; rfl) (by kernel_rfl) (by kernel_rfl) (by kernel_rfl) (by exact fun _ _ _ h => h) (Or.inl ⟨by rfl, ?hq2_0⟩) hHeld ?rq2_0
            case hq2_0 => (intro w hSw; (try dsimp only at hSw); go_simp; (try with_reducible rfl))
            try simp only [put_laws]
            refine wpAnyH_take (i := 1) (v := ?vq2_1) (by simp only [List.getElem?_toArray, List.getElem?_cons_succ, List.getElem?_cons_zero]; rfl) (by kernel_rfl) (by kernel_rfl) (by kernel_rfl) (by exact fun _ _ _ h => h) (Or.inl ⟨by rfl, ?hq2_1⟩) hHeld ?rq2_1
            case hq2_1 => (intro w hSw; (try dsimp only at hSw); go_simp; (try with_reducible rfl))
            try simp only [put_laws]
            refine wpAnyH_take (i := 2) (v := ?vq2_2) (by simp only [List.getElem?_toArray, List.getElem?_cons_succ, List.getElem?_cons_zero]; rfl) (by kernel_rfl) (by kernel_rfl) (by kernel_rfl) (by exact fun _ _ _ h => h) (Or.inl ⟨by rfl, ?hq2_2⟩) hHeld ?rq2_2
            case hq2_2 => (intro w hSw; (try dsimp only at hSw); go_simp; (try with_reducible rfl))
            try simp only [put_laws]
            refine wpAnyH_take (i := 3) (v := ?vq2_3) (by simp only [List.getElem?_toArray, List.getElem?_cons_succ, List.getElem?_cons_zero]; rfl) (by kernel_rfl) (by kernel_rfl) (by kernel_rfl) (by exact fun _ _ _ h => h) (Or.inl ⟨by rfl, ?hq2_3⟩) hHeld ?rq2_3
            case hq2_3 => (intro w hSw; (try dsimp only at hSw); go_simp; (try with_reducible rfl))
            try simp only [put_laws]
            refine wpAnyH_take (i := 4) (v := ?vq2_4) (by simp only [List.getElem?_toArray, List.getElem?_cons_succ, List.getElem?_cons_zero]; rfl) (by kernel_rfl) (by kernel_rfl) (by kernel_rfl) (by exact fun _ _ _ h => h) (Or.inl ⟨by rfl, ?hq2_4⟩) hHeld ?rq2_4
            case hq2_4 => (intro w hSw; (try dsimp only at hSw); go_simp; (try with_reducible rfl))
            try simp only [put_laws]
            refine wpAnyH_take (i := 5) (v := ?vq2_5) (by simp only [List.getElem?_toArray, List.getElem?_cons_succ, List.getElem?_cons_zero]; rfl) (by kernel_rfl) (by kernel_rfl) (by kernel_rfl) (by exact fun _ _ _ h => h) (Or.inl ⟨by rfl, ?hq2_5⟩) hHeld ?rq2_5
            case hq2_5 => (intro w hSw; (try dsimp only at hSw); go_simp; (try with_reducible rfl))
            try simp only [put_laws]
            refine wpAnyH_take (i := 6) (v := ?vq2_6) (by simp only [List.getElem?_toArray, List.getElem?_cons_succ, List.getElem?_cons_zero]; rfl) (by kernel_rfl) (by kernel_rfl) (by kernel_rfl) (by exact fun _ _ _ h => h) (Or.inl ⟨by rfl, ?hq2_6⟩) hHeld ?rq2_6
            case hq2_6 => (intro w hSw; (try dsimp only at hSw); go_simp; (try with_reducible rfl))
            try simp only [put_laws]
            refine wpAnyH_take (i := 7) (v := ?vq2_7) (by simp only [List.getElem?_toArray, List.getElem?_cons_succ, List.getElem?_cons_zero]; rfl) (by kernel_rfl) (by kernel_rfl) (by kernel_rfl) (by exact fun _ _ _ h => h) (Or.inl ⟨by rfl, ?hq2_7⟩) hHeld ?rq2_7
            case hq2_7 => (intro w hSw; (try dsimp only at hSw); go_simp; (try with_reducible rfl))
            try simp only [put_laws]
            refine wpAnyH_take (i := 8) (v := ?vq2_8) (by simp only [List.getElem?_toArray, List.getElem?_cons_succ, List.getElem?_cons_zero]; rfl) (by kernel_rfl) (by kernel_rfl) (by kernel_rfl) (by exact fun _ _ _ h => h) (Or.inl ⟨by rfl, ?hq2_8⟩) hHeld ?rq2_8
            case hq2_8 => (intro w hSw; (try dsimp only at hSw); go_simp; (try with_reducible rfl))
            try simp only [put_laws]
            refine wpAnyH_take (i := 9) (v := ?vq2_9) (by simp only [List.getElem?_toArray, List.getElem?_cons_succ, List.getElem?_cons_zero]; rfl) (by kernel_rfl) (by kernel_rfl) (by kernel_rfl) (by exact fun _ _ _ h => h) (Or.inl ⟨by rfl, ?hq2_9⟩) hHeld ?rq2_9
            case hq2_9 => (intro w hSw; (try dsimp only at hSw); go_simp; (try with_reducible rfl))
            try simp only [put_laws]
            refine wpAnyH_take (i := 10) (v := ?vq2_10) (by simp only [List.getElem?_toArray, List.getElem?_cons_succ, List.getElem?_cons_zero]; rfl) (by kernel_rfl) (by kernel_rfl) (by kernel_rfl) (by exact fun _ _ _ h => h) (Or.inl ⟨by rfl, ?hq2_10⟩) hHeld ?rq2_10
            case hq2_10 => (intro w hSw; (try dsimp only at hSw); go_simp; (try with_reducible rfl))
            try simp only [put_laws]
            refine wpAnyH_take (i := 11) (v := ?vq2_11) (by simp only [List.getElem?_toArray, List.getElem?_cons_succ, List.getElem?_cons_zero]; rfl) (by kernel_rfl) (by kernel_rfl) (by kernel_rfl) (by exact fun _ _ _ h => h) (Or.inl ⟨by rfl, ?hq2_11⟩) hHeld ?rq2_11
            case hq2_11 => (intro w hSw; (try dsimp only at hSw); go_simp; (try with_reducible rfl))
            try simp only [put_laws]
            refine wpAnyH_take (i := 12) (v := ?vq2_12) (by simp only [List.getElem?_toArray, List.getElem?_cons_succ, List.getElem?_cons_zero]; rfl) (by kernel_rfl) (by kernel_rfl) (by kernel_rfl) (by exact fun _ _ _ h => h) (Or.inl ⟨by rfl, ?hq2_12⟩) hHeld ?rq2_12
            case hq2_12 => (intro w hSw; (try dsimp only at hSw); go_simp; (try with_reducible rfl))
            try simp only [put_laws]
            refine wpAnyH_take (i := 13) (v := ?vq2_13) (by simp only [List.getElem?_toArray, List.getElem?_cons_succ, List.getElem?_cons_zero]; rfl) (by kernel_rfl) (by kernel_rfl) (by kernel_rfl) (by exact fun _ _ _ h => h) (Or.inl ⟨by rfl, ?hq2_13⟩) hHeld ?rq2_13
            case hq2_13 => (intro w hSw; (try dsimp only at hSw); go_simp; (try with_reducible rfl))
            try simp only [put_laws]
            refine wpAnyH_take (i := 14) (v := ?vq2_14) (by simp only [List.getElem?_toArray, List.getElem?_cons_succ, List.getElem?_cons_zero]; rfl) (by kernel_rfl) (by kernel_rfl) (by kernel_rfl) (by exact fun _ _ _ h => h) (Or.inl ⟨by rfl, ?hq2_14⟩) hHeld ?rq2_14
            case hq2_14 => (intro w hSw; (try dsimp only at hSw); go_simp; (try with_reducible rfl))
            try simp only [put_laws]
            refine wpAnyH_take (i := 15) (v := ?vq2_15) (by simp only [List.getElem?_toArray, List.getElem?_cons_succ, List.getElem?_cons_zero]; rfl) (by kernel_rfl) (by kernel_rfl) (by kernel_rfl) (by exact fun _ _ _ h => h) (Or.inl ⟨by rfl, ?hq2_15⟩) hHeld ?rq2_15
            case hq2_15 => (intro w hSw; (try dsimp only at hSw); go_simp; (try with_reducible rfl))
            try simp only [put_laws]
            refine wpAnyH_ready (rs := [16]) (by kernel_rfl) (by simp) ?_
            refine AllReadyH.cons (by simp only [List.getElem?_toArray, List.getElem?_cons_succ, List.getElem?_cons_zero]; rfl) (fun K hK => ?_) AllReadyH.nil
            go_simp
            ((with_reducible refine (fits_yes _ _ _ hfit.out).mono ?_); rintro e w1 ⟨rfl, hb1⟩)
            refine hK.out _ _ ?_ (fun hHeld => ?_)
            · (try dsimp only); (first | exact ⟨hT, hE0, hc0, hc1, hc2, hc3, hm0, hm1, hm2, (Below.refl _ _).drew⟩ | (obtain ⟨k0, k1, k2, k3, k4, k5, k6, k7, k8, k9⟩ := hHeld; exact ⟨(hb1.cell (Nat.lt_of_lt_of_le hDl k9.size)).trans k0, (hb1.cell (Nat.lt_of_lt_of_le hDl k9.size)).trans k1, (hb1.cell (Nat.lt_of_lt_of_le hb k9.size)).trans k2, (hb1.cell (Nat.lt_of_lt_of_le hb k9.size)).trans k3, (hb1.cell (Nat.lt_of_lt_of_le hb k9.size)).trans k4, (hb1.cell (Nat.lt_of_lt_of_le hb k9.size)).trans k5, (hb1.cell (Nat.lt_of_lt_of_le hMl k9.size)).trans k6, (hb1.cell (Nat.lt_of_lt_of_le hMl k9.size)).trans k7, (hb1.cell (Nat.lt_of_lt_of_le hMl k9.size)).trans k8, k9.trans (hb1.mono k9.size)⟩))
            clear hK K
            try simp only [put_laws]
            refine wpAnyH_take (i := 17) (v := ?vq2_17) (by simp only [List.getElem?_toArray, List.getElem?_cons_succ, List.getElem?_cons_zero]; rfl) (by kernel_rfl) (by kernel_rfl) (by kernel_rfl) (by exact fun _ _ _ h => h) (Or.inl ⟨by rfl, ?hq2_17⟩) hHeld ?rq2_17
            case hq2_17 => (intro w hSw; (try dsimp only at hSw); go_simp; (try with_reducible rfl))
            try simp only [put_laws]
            refine wpAnyH_done (by kernel_rfl) ?_ _
            have hbK := hHeld.2.2.2.2.2.2.2.2.2
            clear hHeld
            have hS1 := hSb.below hbK
            have hW1 := hWb.below hbK
            have hN1 := hS1.nowAt
            have hnl := hS1.nlen
            have hF0 : w1.cell? ⟨D, 3 + k, none⟩ = some (.bool false) := (hbK.cell (p := ⟨D, 3 + k, none⟩) hDl).trans hT
            have hF2 : w1.cell? ⟨D, 2, none⟩ = some (.slice (some ⟨N, 0, none⟩) n n) := hW1.cell 2
            have hF3 := hW1.free (3 + k)
            have hNz := hN1.free l
            obtain ⟨u, hu⟩ : ∃ u, w1.cell? ⟨N, l, none⟩ = some u := ⟨(now'.map (Value.int .i64))[l]'(by simp; omega), by rw [hN1.cell]; exact List.getElem?_eq_getElem _⟩
            clear hnl hT hE0 hm0 hm1 hm2 hc0 hc1 hc2 hc3
            go_wp2
            have hS2 := hS1.enter (p := k) HGL.out hln hk6
            have hbw1 := below_next hbwb hbK
            have hbw2 := (hbw1.setCell (p := ⟨D, 3 + k, none⟩) hS1.bD (.bool true)).setCell (p := ⟨N, l, none⟩) hS1.bN (.int .i64 (k : Int))
            have hf2 := ((hfb.below hbK).set (p := ⟨D, 3 + k, none⟩) (.inl rfl) (.bool true)).set (p := ⟨N, l, none⟩) (.inr rfl) (.int .i64 (k : Int))
            have hM2 := ((hMw.below hbK).far (p := ⟨D, 3 + k, none⟩) hMD (.bool true)).far (p := ⟨N, l, none⟩) hMN (.int .i64 (k : Int))
            generalize (w1.setCell ⟨D, 3 + k, none⟩ (.bool true)).setCell ⟨N, l, none⟩ (.int .i64 (k : Int)) = w2 at hS2 hbw2 hf2 hM2 ⊢
            clear hF0 hF2 hF3 hNz hu hW1 hN1 hS1 hbw1 hbK hfb hSb hbwb hMw hMl hDl hb hWb
            obtain ⟨bv2, mv2, wv2, hW2, -⟩ := hS2.blk
            have hDl2 := hW2.lt
            have hMl2 := hM2.lt
            have hE0 : w2.cell? ⟨D, 0, none⟩ = some (.slice (some ⟨b, off, none⟩) n c) := hW2.cell 0
            obtain ⟨x', b', off', HX', hA', hb2, hc0, hc1, hc2, hc3⟩ := (hx.below hbw2).get hln
            cases hA'
            obtain rfl : x = x' := by have h1 := HX.out; have h2 := HX'.out; rw [h1] at h2; injection h2
            clear HX'
            have hm0 := hM2.cell 0
            have hm1 := hM2.cell 1
            have hm2 := hM2.cell 2
            simp only [List.getElem?_cons_zero, List.getElem?_cons_succ] at hm0 hm1 hm2
            have keep9 : ∀ (w5 : World) (now5 : List Int) (oo : Option (List Int)), Srch w0.heap.size w5 D N (some ⟨b, off, none⟩) n c (some ⟨qb, qoff, none⟩) m pc cs ps now5 (g ++ [(k : Int)]) oo → Below w0.heap.size w0 w5 → Fr D N w2 w5 → w5.cell? ⟨D, 0, none⟩ = some (.slice (some ⟨b, off, none⟩) n c) ∧ w5.cell? ⟨b, off + l * 4, none⟩ = some (.int .i64 x.f) ∧ w5.cell? ⟨b, off + l * 4 + 1, none⟩ = some (.int .i64 x.t) ∧ w5.cell? ⟨b, off + l * 4 + 2, none⟩ = some (.int .i64 x.r) ∧ w5.cell? ⟨b, off + l * 4 + 3, none⟩ = some (.int .i64 x.u) ∧ w5.cell? ⟨M, 0, none⟩ = some (.int .i64 y.f) ∧ w5.cell? ⟨M, 1, none⟩ = some (.int .i64 y.t) ∧ w5.cell? ⟨M, 2, none⟩ = some (.int .i64 y.r) := by
              intro w5 now5 oo h5 hb5 hf5
              obtain ⟨_, _, _, h6, _⟩ := h5.blk
              have h7 := hM2.fr hf5 hMD hMN
              obtain ⟨x', b', off', HX', hA', hb', hc0', hc1', hc2', hc3'⟩ := (hx.below hb5).get hln
              cases hA'
              obtain rfl : x = x' := by have h1 := HX.out; have h2 := HX'.out; rw [h1] at h2; injection h2
              exact ⟨h6.cell 0, hc0', hc1', hc2', hc3', h7.cell 0, h7.cell 1, h7.cell 2⟩
            have HKeep9 := Lib.hid keep9
            clear keep9
            have r1 := car_range (carsB_get HOK.out.cars HX)
            have r2 := place_range (placesB_get HOK.out.places HY)
            obtain ⟨-, ⟨r11, r12⟩, ⟨r13, r14⟩, ⟨r15, r16⟩⟩ := r1
            obtain ⟨⟨r21, r22⟩, ⟨r23, r24⟩, ⟨r25, r26⟩⟩ := r2
            have HCY : Hid (candB cs ps g k = true) := Lib.hid (by rw [HCB.out, hfit.out, hhas.out]; rfl)
            have HOK2 := Lib.hid (candB_ok HOK.out HCY.out).1
            have HG2 : Hid ((g ++ [(k : Int)]).length = l + 1) := Lib.hid (by rw [List.length_append, HGL.out]; rfl)
            have HL2 : Hid (l + 1 + f = n) := Lib.hid (by have := HLN.out; omega)
            have HMG2 : Hid (IntKind.i64.wrap (mg + 1) = manyL (g ++ [(k : Int)])) := Lib.hid (by
              rw [IntWalk.i64_in _ (by omega), manyL_snoc, if_pos (by omega), HMG.out])
            have HWG2 : Hid (IntKind.i64.wrap (wg + wOf x y) = wasteI cs ps (g ++ [(k : Int)])) := Lib.hid (by
              rw [wasteI_some HXG HY, ← HWG.out]
              exact IntWalk.i64_in _ (by unfold wOf; omega))
            have HE1 : Hid (((l + 1 : Nat) : Int) = IntKind.i64.wrap ((l : Int) + 1)) := Lib.hid (by rw [IntWalk.i64_in _ (by omega)]; omega)
            refine wp_region_held_drew (S := (fun w' => w'.cell? ⟨D, 0, none⟩ = some (.slice (some ⟨b, off, none⟩) n c) ∧ w'.cell? ⟨b, off + l * 4, none⟩ = some (.int .i64 x.f) ∧ w'.cell? ⟨b, off + l * 4 + 1, none⟩ = some (.int .i64 x.t) ∧ w'.cell? ⟨b, off + l * 4 + 2, none⟩ = some (.int .i64 x.r) ∧ w'.cell? ⟨b, off + l * 4 + 3, none⟩ = some (.int .i64 x.u) ∧ w'.cell? ⟨M, 0, none⟩ = some (.int .i64 y.f) ∧ w'.cell? ⟨M, 1, none⟩ = some (.int .i64 y.t) ∧ w'.cell? ⟨M, 2, none⟩ = some (.int .i64 y.r))) (by kernel_rfl) ?_ (fun hHeld => ?_)
            · (try dsimp only); (first | exact ⟨hE0, hc0, hc1, hc2, hc3, hm0, hm1, hm2⟩ | exact ⟨(hb1.cell hDl2).trans hE0, (hb1.cell hb2).trans hc0, (hb1.cell hb2).trans hc1, (hb1.cell hb2).trans hc2, (hb1.cell hb2).trans hc3, (hb1.cell hMl2).trans hm0, (hb1.cell hMl2).trans hm1, (hb1.cell hMl2).trans hm2⟩ | exact HKeep9.out w5 now5 _ hS5 hb5 (((Fr.refl D N w2).below ((Below.refl _ _).drew.trans hb1)).trans hf5))
            refine wpAnyH_take (i := 0) (v := ?vq3_0) (by simp only [List.getElem?_toArray, List.getElem?_cons_zero]; rfl) (by kernel_rfl) (by kernel_rfl) (by kernel_rfl) (by exact fun _ _ _ h => h) (Or.inl ⟨by rfl, ?hq3_0⟩) hHeld ?rq3_0
            case hq3_0 => (intro w hSw; (try dsimp only at hSw); go_simp; (try with_reducible rfl))
            try simp only [put_laws]
            refine wpAnyH_take (i := 1) (v := ?vq3_1) (by simp only [List.getElem?_toArray, List.getElem?_cons_succ, List.getElem?_cons_zero]; rfl) (by kernel_rfl) (by kernel_rfl) (by kernel_rfl) (by exact fun _ _ _ h => h) (Or.inl ⟨by rfl, ?hq3_1⟩) hHeld ?rq3_1
            case hq3_1 => (intro w hSw; (try dsimp only at hSw); go_simp; (try with_reducible rfl))
            try simp only [put_laws]
            refine wpAnyH_take (i := 2) (v := ?vq3_2) (by simp only [List.getElem?_toArray, List.getElem?_cons_succ, List.getElem?_cons_zero]; rfl) (by kernel_rfl) (by kernel_rfl) (by kernel_rfl) (by exact fun _ _ _ h => h) (Or.inl ⟨by rfl, ?hq3_2⟩) hHeld ?rq3_2
            case hq3_2 => (intro w hSw; (try dsimp only at hSw); go_simp; (try with_reducible rfl))
            try simp only [put_laws]
            refine wpAnyH_take (i := 3) (v := ?vq3_3) (by simp only [List.getElem?_toArray, List.getElem?_cons_succ, List.getElem?_cons_zero]; rfl) (by kernel_rfl) (by kernel_rfl) (by kernel_rfl) (by exact fun _ _ _ h => h) (Or.inl ⟨by rfl, ?hq3_3⟩) hHeld ?rq3_3
            case hq3_3 => (intro w hSw; (try dsimp only at hSw); go_simp; (try with_reducible rfl))
            try simp only [put_laws]
            refine wpAnyH_take (i := 4) (v := ?vq3_4) (by simp only [List.getElem?_toArray, List.getElem?_cons_succ, List.getElem?_cons_zero]; rfl) (by kernel_rfl) (by kernel_rfl) (by kernel_rfl) (by exact fun _ _ _ h => h) (Or.inl ⟨by rfl, ?hq3_4⟩) hHeld ?rq3_4
            case hq3_4 => (intro w hSw; (try dsimp only at hSw); go_simp; (try with_reducible rfl))
            try simp only [put_laws]
            refine wpAnyH_take (i := 5) (v := ?vq3_5) (by simp only [List.getElem?_toArray, List.getElem?_cons_succ, List.getElem?_cons_zero]; rfl) (by kernel_rfl) (by kernel_rfl) (by kernel_rfl) (by exact fun _ _ _ h => h) (Or.inl ⟨by rfl, ?hq3_5⟩) hHeld ?rq3_5
            case hq3_5 => (intro w hSw; (try dsimp only at hSw); go_simp; (try with_reducible rfl))
            try simp only [put_laws]
            refine wpAnyH_take (i := 6) (v := ?vq3_6) (by simp only [List.getElem?_toArray, List.getElem?_cons_succ, List.getElem?_cons_zero]; rfl) (by kernel_rfl) (by kernel_rfl) (by kernel_rfl) (by exact fun _ _ _ h => h) (Or.inl ⟨by rfl, ?hq3_6⟩) hHeld ?rq3_6
            case hq3_6 => (intro w hSw; (try dsimp only at hSw); go_simp; (try with_reducible rfl))
            try simp only [put_laws]
            refine wpAnyH_take (i := 7) (v := ?vq3_7) (by simp only [List.getElem?_toArray, List.getElem?_cons_succ, List.getElem?_cons_zero]; rfl) (by kernel_rfl) (by kernel_rfl) (by kernel_rfl) (by exact fun _ _ _ h => h) (Or.inl ⟨by rfl, ?hq3_7⟩) hHeld ?rq3_7
            case hq3_7 => (intro w hSw; (try dsimp only at hSw); go_simp; (try with_reducible rfl))
            try simp only [put_laws]
            refine wpAnyH_take (i := 8) (v := ?vq3_8) (by simp only [List.getElem?_toArray, List.getElem?_cons_succ, List.getElem?_cons_zero]; rfl) (by kernel_rfl) (by kernel_rfl) (by kernel_rfl) (by exact fun _ _ _ h => h) (Or.inl ⟨by rfl, ?hq3_8⟩) hHeld ?rq3_8
            case hq3_8 => (intro w hSw; (try dsimp only at hSw); go_simp; (try with_reducible rfl))
            try simp only [put_laws]
            refine wpAnyH_take (i := 9) (v := ?vq3_9) (by simp only [List.getElem?_toArray, List.getElem?_cons_succ, List.getElem?_cons_zero]; rfl) (by kernel_rfl) (by kernel_rfl) (by kernel_rfl) (by exact fun _ _ _ h => h) (Or.inl ⟨by rfl, ?hq3_9⟩) hHeld ?rq3_9
            case hq3_9 => (intro w hSw; (try dsimp only at hSw); go_simp; (try with_reducible rfl))
            try simp only [put_laws]
            refine wpAnyH_take (i := 10) (v := ?vq3_10) (by simp only [List.getElem?_toArray, List.getElem?_cons_succ, List.getElem?_cons_zero]; rfl) (by kernel_rfl) (by kernel_rfl) (by kernel_rfl) (by exact fun _ _ _ h => h) (Or.inl ⟨by rfl, ?hq3_10⟩) hHeld ?rq3_10
            case hq3_10 => (intro w hSw; (try dsimp only at hSw); go_simp; (try with_reducible rfl))
            try simp only [put_laws]
            refine wpAnyH_take (i := 11) (v := ?vq3_11) (by simp only [List.getElem?_toArray, List.getElem?_cons_succ, List.getElem?_cons_zero]; rfl) (by kernel_rfl) (by kernel_rfl) (by kernel_rfl) (by exact fun _ _ _ h => h) (Or.inl ⟨by rfl, ?hq3_11⟩) hHeld ?rq3_11
            case hq3_11 => (intro w hSw; (try dsimp only at hSw); go_simp; (try with_reducible rfl))
            try simp only [put_laws]
            refine wpAnyH_take (i := 12) (v := ?vq3_12) (by simp only [List.getElem?_toArray, List.getElem?_cons_succ, List.getElem?_cons_zero]; rfl) (by kernel_rfl) (by kernel_rfl) (by kernel_rfl) (by exact fun _ _ _ h => h) (Or.inl ⟨by rfl, ?hq3_12⟩) hHeld ?rq3_12
            case hq3_12 => (intro w hSw; (try dsimp only at hSw); go_simp; (try with_reducible rfl))
            try simp only [put_laws]
            refine wpAnyH_take (i := 13) (v := ?vq3_13) (by simp only [List.getElem?_toArray, List.getElem?_cons_succ, List.getElem?_cons_zero]; rfl) (by kernel_rfl) (by kernel_rfl) (by kernel_rfl) (by exact fun _ _ _ h => h) (Or.inl ⟨by rfl, ?hq3_13⟩) hHeld ?rq3_13
            case hq3_13 => (intro w hSw; (try dsimp only at hSw); go_simp; (try with_reducible rfl))
            try simp only [put_laws]
            refine wpAnyH_ready (rs := [14]) (by kernel_rfl) (by simp) ?_
            refine AllReadyH.cons (by simp only [List.getElem?_toArray, List.getElem?_cons_succ, List.getElem?_cons_zero]; rfl) (fun K hK => ?_) AllReadyH.nil
            go_simp
            ((with_reducible refine (wasteOf_any _ _ _ r11 r12 r13 r14 r15 r16 r21 r22 r23 r24 r25 r26).mono ?_); rintro e w3 ⟨rfl, hb1⟩)
            refine hK.out _ _ ?_ (fun hHeld => ?_)
            · (try dsimp only); (first | exact ⟨hE0, hc0, hc1, hc2, hc3, hm0, hm1, hm2⟩ | exact ⟨(hb1.cell hDl2).trans hE0, (hb1.cell hb2).trans hc0, (hb1.cell hb2).trans hc1, (hb1.cell hb2).trans hc2, (hb1.cell hb2).trans hc3, (hb1.cell hMl2).trans hm0, (hb1.cell hMl2).trans hm1, (hb1.cell hMl2).trans hm2⟩ | exact HKeep9.out w5 now5 _ hS5 hb5 (((Fr.refl D N w2).below ((Below.refl _ _).drew.trans hb1)).trans hf5))
            clear hK K
            try simp only [put_laws]
            refine wpAnyH_take (i := 15) (v := ?vq3_15) (by simp only [List.getElem?_toArray, List.getElem?_cons_succ, List.getElem?_cons_zero]; rfl) (by kernel_rfl) (by kernel_rfl) (by kernel_rfl) (by exact fun _ _ _ h => h) (Or.inl ⟨by rfl, ?hq3_15⟩) hHeld ?rq3_15
            case hq3_15 => (intro w hSw; (try dsimp only at hSw); go_simp; (try with_reducible rfl))
            try simp only [put_laws]
            refine wpAnyH_ready (rs := [16]) (by kernel_rfl) (by simp) ?_
            refine AllReadyH.cons (by simp only [List.getElem?_toArray, List.getElem?_cons_succ, List.getElem?_cons_zero]; rfl) (fun K hK => ?_) AllReadyH.nil
            go_simp
            (have hI := IH.out (l + 1) (g ++ [(k : Int)]) (now'.set l (k : Int)) (pickO cs ps o (kidsL cs ps f g k)) (IntKind.i64.wrap (mg + 1)) (IntKind.i64.wrap (wg + wOf x y)) w3 HG2 HL2 HOK2 HMG2 HWG2 (below_next hbw2 ((Below.refl _ _).drew.trans hb1)) (hS2.below ((Below.refl _ _).drew.trans hb1)); rw [HE1.out] at hI; refine hI.mono ?_; rintro e w5 ⟨rfl, now5, hS5, hb5, hf5⟩)
            refine hK.out _ _ ?_ (fun hHeld => ?_)
            · (try dsimp only); (first | exact ⟨hE0, hc0, hc1, hc2, hc3, hm0, hm1, hm2⟩ | exact ⟨(hb1.cell hDl2).trans hE0, (hb1.cell hb2).trans hc0, (hb1.cell hb2).trans hc1, (hb1.cell hb2).trans hc2, (hb1.cell hb2).trans hc3, (hb1.cell hMl2).trans hm0, (hb1.cell hMl2).trans hm1, (hb1.cell hMl2).trans hm2⟩ | exact HKeep9.out w5 now5 _ hS5 hb5 (((Fr.refl D N w2).below ((Below.refl _ _).drew.trans hb1)).trans hf5))
            clear hK K
            try simp only [put_laws]
            refine wpAnyH_done (by kernel_rfl) ?_ _
            have hf23 : Fr D N w2 w3 := (Fr.refl D N w2).below ((Below.refl _ _).drew.trans (by assumption))
            clear hHeld HKeep9
            obtain ⟨bv5, mv5, wv5, hW5, -⟩ := hS5.blk
            have hF0 : w5.cell? ⟨D, 3 + k, none⟩ = some (.bool (hasB (g ++ [(k : Int)]) (k : Int))) := (hW5.cell (3 + k)).trans (srchL_taken hk6)
            have hF3 := hW5.free (3 + k)
            clear hE0 hm0 hm1 hm2 hc0 hc1 hc2 hc3
            go_wp2
            go_roundw
            case rel =>
              refine ⟨k + 1, now5, by omega, by go_num, (hS5.leave hhas.out hk6).as ?_, hb5.setCell hS5.bD _, ((hf2.trans hf23).trans hf5).set (.inl rfl) _⟩
              rw [kidsL_yes HCY.out, ← pick_assoc]
              rfl
            case measure => simp [intOf]; omega
        · have hhas := Lib.hid hh
          rw [hh] at hT0
          have hT := hT0
          clear hh hT0
          refine wp_region_held_drew (S := (fun w' => w'.cell? ⟨D, 3 + k, none⟩ = some (.bool true) ∧ w'.cell? ⟨D, 0, none⟩ = some (.slice (some ⟨b, off, none⟩) n c) ∧ w'.cell? ⟨b, off + l * 4, none⟩ = some (.int .i64 x.f) ∧ w'.cell? ⟨b, off + l * 4 + 1, none⟩ = some (.int .i64 x.t) ∧ w'.cell? ⟨b, off + l * 4 + 2, none⟩ = some (.int .i64 x.r) ∧ w'.cell? ⟨b, off + l * 4 + 3, none⟩ = some (.int .i64 x.u) ∧ w'.cell? ⟨M, 0, none⟩ = some (.int .i64 y.f) ∧ w'.cell? ⟨M, 1, none⟩ = some (.int .i64 y.t) ∧ w'.cell? ⟨M, 2, none⟩ = some (.int .i64 y.r) ∧ Below wb.heap.size wb w')) (by kernel_rfl) ?_ (fun hHeld => ?_)
          · (try dsimp only); (first | exact ⟨hT, hE0, hc0, hc1, hc2, hc3, hm0, hm1, hm2, (Below.refl _ _).drew⟩ | (obtain ⟨k0, k1, k2, k3, k4, k5, k6, k7, k8, k9⟩ := hHeld; exact ⟨(hb1.cell (Nat.lt_of_lt_of_le hDl k9.size)).trans k0, (hb1.cell (Nat.lt_of_lt_of_le hDl k9.size)).trans k1, (hb1.cell (Nat.lt_of_lt_of_le hb k9.size)).trans k2, (hb1.cell (Nat.lt_of_lt_of_le hb k9.size)).trans k3, (hb1.cell (Nat.lt_of_lt_of_le hb k9.size)).trans k4, (hb1.cell (Nat.lt_of_lt_of_le hb k9.size)).trans k5, (hb1.cell (Nat.lt_of_lt_of_le hMl k9.size)).trans k6, (hb1.cell (Nat.lt_of_lt_of_le hMl k9.size)).trans k7, (hb1.cell (Nat.lt_of_lt_of_le hMl k9.size)).trans k8, k9.trans (hb1.mono k9.size)⟩))
          refine wpAnyH_take (i := 0) (v := ?vq4_0) (by simp only [List.getElem?_toArray, List.getElem?_cons_zero]; rfl) (by kernel_rfl) (by kernel_rfl) (by kernel_rfl) (by exact fun _ _ _ h => h) (Or.inl ⟨by rfl, ?hq4_0⟩) hHeld ?rq4_0
          case hq4_0 => (intro w hSw; (try dsimp only at hSw); go_simp; (try with_reducible rfl))
          try simp only [put_laws]
          refine wpAnyH_take (i := 1) (v := ?vq4_1) (by simp only [List.getElem?_toArray, List.getElem?_cons_succ, List.getElem?_cons_zero]; rfl) (by kernel_rfl) (by kernel_rfl) (by kernel_rfl) (by exact fun _ _ _ h => h) (Or.inl ⟨by rfl, ?hq4_1⟩) hHeld ?rq4_1
          case hq4_1 => (intro w hSw; (try dsimp only at hSw); go_simp; (try with_reducible rfl))
          try simp only [put_laws]
          refine wpAnyH_take (i := 2) (v := ?vq4_2) (by simp only [List.getElem?_toArray, List.getElem?_cons_succ, List.getElem?_cons_zero]; rfl) (by kernel_rfl) (by kernel_rfl) (by kernel_rfl) (by exact fun _ _ _ h => h) (Or.inl ⟨by rfl, ?hq4_2⟩) hHeld ?rq4_2
          case hq4_2 => (intro w hSw; (try dsimp only at hSw); go_simp; (try with_reducible rfl))
          try simp only [put_laws]
          refine wpAnyH_take (i := 3) (v := ?vq4_3) (by simp only [List.getElem?_toArray, List.getElem?_cons_succ, List.getElem?_cons_zero]; rfl) (by kernel_rfl) (by kernel_rfl) (by kernel_rfl) (by exact fun _ _ _ h => h) (Or.inl ⟨by rfl, ?hq4_3⟩) hHeld ?rq4_3
          case hq4_3 => (intro w hSw; (try dsimp only at hSw); go_simp; (try with_reducible rfl))
          try simp only [put_laws]
          refine wpAnyH_take (i := 4) (v := ?vq4_4) (by simp only [List.getElem?_toArray, List.getElem?_cons_succ, List.getElem?_cons_zero]; rfl) (by kernel_rfl) (by kernel_rfl) (by kernel_rfl) (by exact fun _ _ _ h => h) (Or.inl ⟨by rfl, ?hq4_4⟩) hHeld ?rq4_4
          case hq4_4 => (intro w hSw; (try dsimp only at hSw); go_simp; (try with_reducible rfl))
          try simp only [put_laws]
          refine wpAnyH_take (i := 5) (v := ?vq4_5) (by simp only [List.getElem?_toArray, List.getElem?_cons_succ, List.getElem?_cons_zero]; rfl) (by kernel_rfl) (by kernel_rfl) (by kernel_rfl) (by exact fun _ _ _ h => h) (Or.inl ⟨by rfl, ?hq4_5⟩) hHeld ?rq4_5
          case hq4_5 => (intro w hSw; (try dsimp only at hSw); go_simp; (try with_reducible rfl))
          try simp only [put_laws]
          refine wpAnyH_take (i := 6) (v := ?vq4_6) (by simp only [List.getElem?_toArray, List.getElem?_cons_succ, List.getElem?_cons_zero]; rfl) (by kernel_rfl) (by kernel_rfl) (by kernel_rfl) (by exact fun _ _ _ h => h) (Or.inl ⟨by rfl, ?hq4_6⟩) hHeld ?rq4_6
          case hq4_6 => (intro w hSw; (try dsimp only at hSw); go_simp; (try with_reducible rfl))
          try simp only [put_laws]
          refine wpAnyH_take (i := 7) (v := ?vq4_7) (by simp only [List.getElem?_toArray, List.getElem?_cons_succ, List.getElem?_cons_zero]; rfl) (by kernel_rfl) (by kernel_rfl) (by kernel_rfl) (by exact fun _ _ _ h => h) (Or.inl ⟨by rfl, ?hq4_7⟩) hHeld ?rq4_7
          case hq4_7 => (intro w hSw; (try dsimp only at hSw); go_simp; (try with_reducible rfl))
          try simp only [put_laws]
          refine wpAnyH_take (i := 8) (v := undef) (by simp only [List.getElem?_toArray, List.getElem?_cons_succ, List.getElem?_cons_zero]; rfl) (by kernel_rfl) (by kernel_rfl) (by kernel_rfl) (by exact fun _ _ _ h => h) (Or.inr ⟨by rfl, rfl⟩) hHeld ?_
          try simp only [put_laws]
          refine wpAnyH_take (i := 9) (v := undef) (by simp only [List.getElem?_toArray, List.getElem?_cons_succ, List.getElem?_cons_zero]; rfl) (by kernel_rfl) (by kernel_rfl) (by kernel_rfl) (by exact fun _ _ _ h => h) (Or.inr ⟨by rfl, rfl⟩) hHeld ?_
          try simp only [put_laws]
          refine wpAnyH_take (i := 10) (v := undef) (by simp only [List.getElem?_toArray, List.getElem?_cons_succ, List.getElem?_cons_zero]; rfl) (by kernel_rfl) (by kernel_rfl) (by kernel_rfl) (by exact fun _ _ _ h => h) (Or.inr ⟨by rfl, rfl⟩) hHeld ?_
          try simp only [put_laws]
          refine wpAnyH_take (i := 11) (v := undef) (by simp only [List.getElem?_toArray, List.getElem?_cons_succ, List.getElem?_cons_zero]; rfl) (by kernel_rfl) (by kernel_rfl) (by kernel_rfl) (by exact fun _ _ _ h => h) (Or.inr ⟨by rfl, rfl⟩) hHeld ?_
          try simp only [put_laws]
          refine wpAnyH_take (i := 12) (v := undef) (by simp only [List.getElem?_toArray, List.getElem?_cons_succ, List.getElem?_cons_zero]; rfl) (by kernel_rfl) (by kernel_rfl) (by kernel_rfl) (by exact fun _ _ _ h => h) (Or.inr ⟨by rfl, rfl⟩) hHeld ?_
          try simp only [put_laws]
          refine wpAnyH_take (i := 13) (v := undef) (by simp only [List.getElem?_toArray, List.getElem?_cons_succ, List.getElem?_cons_zero]; rfl) (by kernel_rfl) (by kernel_rfl) (by kernel_rfl) (by exact fun _ _ _ h => h) (Or.inr ⟨by rfl, rfl⟩) hHeld ?_
          try simp only [put_laws]
          refine wpAnyH_take (i := 14) (v := undef) (by simp only [List.getElem?_toArray, List.getElem?_cons_succ, List.getElem?_cons_zero]; rfl) (by kernel_rfl) (by kernel_rfl) (by kernel_rfl) (by exact fun _ _ _ h => h) (Or.inr ⟨by rfl, rfl⟩) hHeld ?_
          try simp only [put_laws]
          refine wpAnyH_take (i := 15) (v := undef) (by simp only [List.getElem?_toArray, List.getElem?_cons_succ, List.getElem?_cons_zero]; rfl) (by kernel_rfl) (by kernel_rfl) (by kernel_rfl) (by exact fun _ _ _ h => h) (Or.inr ⟨by rfl, rfl⟩) hHeld ?_
          try simp only [put_laws]
          refine wpAnyH_take (i := 16) (v := undef) (by simp only [List.getElem?_toArray, List.getElem?_cons_succ, List.getElem?_cons_zero]; rfl) (by kernel_rfl) (by kernel_rfl) (by kernel_rfl) (by exact fun _ _ _ h => h) (Or.inr ⟨by rfl, rfl⟩) hHeld ?_
          try simp only [put_laws]
          refine wpAnyH_take (i := 17) (v := ?vq4_17) (by simp only [List.getElem?_toArray, List.getElem?_cons_succ, List.getElem?_cons_zero]; rfl) (by kernel_rfl) (by kernel_rfl) (by kernel_rfl) (by exact fun _ _ _ h => h) (Or.inl ⟨by rfl, ?hq4_17⟩) hHeld ?rq4_17
          case hq4_17 => (intro w hSw; (try dsimp only at hSw); go_simp; (try with_reducible rfl))
          try simp only [put_laws]
          refine wpAnyH_done (by kernel_rfl) ?_ _
          have hbK := hHeld.2.2.2.2.2.2.2.2.2
          go_wp2
          go_roundw
          case rel => exact ⟨k + 1, now', by omega, by go_num, (hSb.below hbK).as (by rw [kidsL_no (by rw [HCB.out, hhas.out, Bool.not_true, Bool.and_false])]), below_next hbwb hbK, hfb.below hbK⟩
          case measure => simp [intOf]; omega
      · have hkm : k = ps.length := by have := HP0.out; omega
        have HKM := Lib.hid hkm
        clear hkm
        obtain ⟨x, b, off, HX, rfl, hb, -, -, -, -⟩ := (hx.below hbr).get hln
        have HXG : Hid (cs[g.length]? = some x) := Lib.hid (by rw [HGL.out]; exact HX.out)
        obtain ⟨bv, mv, wv, hWb, -⟩ := hSr.blk
        have hNw := hSr.nowAt
        have hnl := hSr.nlen
        have hF2 : wo.cell? ⟨D, 2, none⟩ = some (.slice (some ⟨N, 0, none⟩) n n) := hWb.cell 2
        have hNz := hNw.free l
        obtain ⟨u, hu⟩ : ∃ u, wo.cell? ⟨N, l, none⟩ = some u := ⟨(now'.map (Value.int .i64))[l]'(by simp; omega), by rw [hNw.cell]; exact List.getElem?_eq_getElem _⟩
        have hl0 : (0 : Int) ≤ (l : Int) := by omega
        have hl1 : (l : Int) < (n : Int) := by omega
        clear hnl
        have hS2 := hSr.enterN HGL.out hln
        have hbw2 := hbr.setCell (p := ⟨N, l, none⟩) hSr.bN (.int .i64 (-1))
        have hf2 := hfr.set (p := ⟨N, l, none⟩) (.inr rfl) (.int .i64 (-1))
        have HOK2 := Lib.hid (HOK.out.none HXG)
        have HG2 : Hid ((g ++ [-1]).length = l + 1) := Lib.hid (by rw [List.length_append, HGL.out]; rfl)
        have HL2 : Hid (l + 1 + f = n) := Lib.hid (by have := HLN.out; omega)
        have HMG2 : Hid (mg = manyL (g ++ [-1])) := Lib.hid (by rw [manyL_snoc, if_neg (by omega), HMG.out]; omega)
        have HWG2 : Hid (wg = wasteI cs ps (g ++ [-1])) := Lib.hid (by rw [wasteI_none, HWG.out])
        have HE1 : Hid (((l + 1 : Nat) : Int) = (l : Int) + 1) := Lib.hid (by omega)
        clear hSr hbr hfr hWb hNw
        go_wp2_with fail
        have hI := IH.out (l + 1) (g ++ [-1]) (now'.set l (-1)) (pickO cs ps o (kidsL cs ps f g k)) mg wg _ HG2 HL2 HOK2 HMG2 HWG2 hbw2 hS2
        rw [HE1.out] at hI
        refine hI.mono ?_; rintro e w5 ⟨rfl, now5, hS5, hb5, hf5⟩
        go_wp2
        go_end0
        refine ⟨rfl, now5, (hS5.leaveN).as ?_, hb5, hf2.trans hf5⟩
        rw [bestL_next, pick_assoc, HKM.out]

set_option maxHeartbeats 4000000 in
theorem giveBest_any (A : Option Addr) (n c : Nat) (cs : List C4) (P : Option Addr) (m pc : Nat) (ps : List P3) (w : World)
    (hn : n ≤ c ∧ c ≤ 9223372036854775807) (hx : CarsAt w A n cs) (hm : m ≤ 9223372036854775807) (hp : PlacesAt w P m ps) :
    Calls Tryd.prog 29 #[.slice A n c, .slice P m pc] w (OwnR w (bestAll cs ps)) := by
  have HL := Lib.hid hx.len
  have HM := Lib.hid hp.len
  have HN := Lib.hid hn
  obtain ⟨i0, hi, hz0, hz1, hz2⟩ := info_parts int_info
  cases hC : carsB cs
  · have HC := Lib.hid hC
    go_enter Tryd.func29, Tryd.ntmps29
    go_wp2_with fail
    refine (carsValid_any A n c cs _ HN.out hx).mono ?_; rintro e w1 ⟨rfl, hb1⟩
    go_wp2
    go_ret
    exact ownR_nil hb1 (bestAll_cars HC.out)
  have HC := Lib.hid hC
  cases hP : placesB ps
  · have HP := Lib.hid hP
    go_enter Tryd.func29, Tryd.ntmps29
    go_wp2_with fail
    refine (carsValid_any A n c cs _ HN.out hx).mono ?_; rintro e w1 ⟨rfl, hb1⟩
    go_wp2_with fail
    refine (placesValid_any P m pc ps _ hm (hp.below hb1)).mono ?_; rintro e w2 ⟨rfl, hb2⟩
    go_wp2
    go_ret
    exact ownR_nil (below_next hb1 hb2) (bestAll_places HP.out)
  have HP := Lib.hid hP
  have hn6 : n ≤ 6 := by have := carsB_len HC.out; have := HL.out; omega
  go_enter Tryd.func29, Tryd.ntmps29
  go_wp2_with fail
  refine (carsValid_any A n c cs _ HN.out hx).mono ?_; rintro e w1 ⟨rfl, hb1⟩
  go_wp2_with fail
  refine (placesValid_any P m pc ps _ hm (hp.below hb1)).mono ?_; rintro e w2 ⟨rfl, hb2⟩
  have hb0 := below_next hb1 hb2
  go_wp2_with (at_make; refine wpList_make_full _ rfl _ _ 27 rfl w2.heap.size 3 i0 _ 1 Tryd.underlying27 hi hz0 hz1 .i64 .i64 _ _ n rfl rfl rfl rfl (by rw [hz2]; omega) (by unfold maxLen; omega) (Nat.le_refl _) ?_; intro w3 hown hg)
  rw [made_zeros] at hown
  have hN3 := whole_of_own hown
  have hb3 : Below w2.heap.size w2 w3 := Joins.below_le (B' := w2.heap.size) (Below.grown (Below.refl _ w2) hg (Nat.le_refl _) (by simp)) (Nat.le_refl _)
  have hN3l := hN3.lt
  have hW4 : Whole (w3.alloc (.cells #[.slice A n c, .slice P m pc, .slice (some ⟨w2.heap.size, 0, none⟩) n n, .bool false, .bool false, .bool false, .bool false, .bool false, .bool false, .slice none 0 0, .int .i64 (-1), .int .i64 0] 67)) w3.heap.size 67 (srchL A n c P m pc w2.heap.size [] (.slice none 0 0) (-1) 0) := Whole.new w3 _ _
  have hb4 : Below w3.heap.size w3 (w3.alloc (.cells #[.slice A n c, .slice P m pc, .slice (some ⟨w2.heap.size, 0, none⟩) n n, .bool false, .bool false, .bool false, .bool false, .bool false, .bool false, .slice none 0 0, .int .i64 (-1), .int .i64 0] 67)) := (Below.refl _ _).alloc (Nat.le_refl _) _
  generalize w3.alloc (.cells #[.slice A n c, .slice P m pc, .slice (some ⟨w2.heap.size, 0, none⟩) n n, .bool false, .bool false, .bool false, .bool false, .bool false, .bool false, .slice none 0 0, .int .i64 (-1), .int .i64 0] 67) = w4 at hW4 hb4 ⊢
  have hbw4 := below_next (below_next hb0 hb3) hb4
  have hs2 := hb0.size
  have hs3 := hb3.size
  have hS : Srch w.heap.size w4 w3.heap.size w2.heap.size A n c P m pc cs ps (List.replicate n 0) [] none :=
    ⟨⟨_, _, _, hW4, rfl, rfl, rfl⟩, hN3.below hb4, by simp, by simp, by omega, by omega, by omega, fun b h => by cases h⟩
  refine (from_any A n c cs P m pc ps w3.heap.size w2.heap.size w HN.out hx hp HL HM n 0 [] (List.replicate n 0) none 0 0 w4 rfl (Lib.hid (by omega)) (Lib.hid (okPre_nil HC.out HP.out)) rfl rfl hbw4 hS).mono ?_
  rintro e w5 ⟨rfl, now5, hS5, hb5, -⟩
  obtain ⟨bv, mv, wv, hW5, hB5⟩ := hS5.blk
  have ho := hB5.own
  obtain ⟨VA, vc, rfl, _, _⟩ := ho.form
  have hD9 : w5.cell? ⟨w3.heap.size, 9, none⟩ = some (.slice VA n vc) := hW5.cell 9
  clear hC hP hown hg
  go_wp2
  go_ret
  refine ownR_mk rfl ?_ hb5
  rw [bestAll_yes HC.out HP.out, HL.out]
  exact ho
end Go.Proofs.YtmmaeninlhbaaaaDoor
