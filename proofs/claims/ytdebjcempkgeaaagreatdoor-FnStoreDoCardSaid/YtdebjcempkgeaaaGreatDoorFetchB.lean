/-
  A car at the gate is fetched without a slide: bringSearch, BringBest, doAll and FetchDo of the program.
-/
import Derived.Test.YtdebjcempkgeaaaGreatDoorHCars
import Derived.Test.YtdebjcempkgeaaaGreatDoorDoAll
import Derived.Test.YtdebjcempkgeaaaGreatDoorStoI
import Derived.Deep.OwnRows
import Derived.Deep.CutRange
namespace Go.Proofs.YtdebjcempkgeaaaGreatDoor
open Go.ChangeShapes Go.WideShapes Go.ChangeAt Go.RowKit

set_option maxHeartbeats 2000000 in
theorem reverse_nil (w : World) : Calls Tryz.prog 84 #[.slice none 0 0] w (RS w (.tuple #[])) := by
  go_enter Tryz.func84, Tryz.ntmps84
  go_wp2
  go_loopw [2, 3] (fun a b wr => a = .int .i64 0 ∧ b = .int .i64 (-1) ∧ wr = w) (fun _ _ _ => 0)
  case atStart => exact ⟨rfl, rfl, rfl⟩
  case round =>
    obtain ⟨rfl, rfl, rfl⟩ := hrel
    go_wp2
    go_end0
    exact ⟨rfl, rfl⟩
set_option maxRecDepth 100000 in
set_option maxHeartbeats 2000000 in
theorem slidesTo_same (b : Value) (s : Nat) (n : Nat) (w : World) (hn : n ≤ 12) : Calls Tryz.prog 64 #[b, .int .i64 s, .int .i64 s, .int .i64 n] w (RS w (.slice none 0 0)) := by
  go_enter Tryz.func64, Tryz.ntmps64
  go_wp2
  go_loopw [2, 10, 11, 12, 13] (fun a v _ _ _ wr => a = .int .i64 s ∧ v = .slice none 0 0 ∧ wr = w) (fun _ _ _ _ _ _ => 0)
  case atStart => exact ⟨rfl, rfl, rfl⟩
  case round =>
    obtain ⟨rfl, rfl, rfl⟩ := hrel
    have hd : ((s : Int) != (s : Int)) = false := by simp
    go_wp2_with fail
    refine (reverse_nil _).mono ?_; rintro e w1 ⟨rfl, rfl⟩
    go_wp2
    go_ret
    exact ⟨rfl, rfl⟩
theorem slc_info : (Tryz.prog.info? 23).map (fun i => (i.zero, i.size, i.bytes)) = some (some (.slice none 0 0), 1, 24) := by kernel_rfl
theorem i32_info : (Tryz.prog.info? 21).map (fun i => (i.zero, i.size, i.bytes)) = some (some (.int .i32 0), 1, 4) := by kernel_rfl
theorem made_whole (w : World) (z : Value) (n : Nat) (e : TypeId) : Whole (w.alloc (.cells (madeCells #[z] n) e)) w.heap.size e (List.replicate n z) := by
  have h : (madeCells #[z] n) = (List.replicate n z).toArray := by
    apply Array.ext
    · simp [madeCells]
    · intro i h1 h2; simp [madeCells, Nat.mod_one]
  rw [h]; exact Whole.new w e (List.replicate n z)
theorem shl_self (n : Nat) (h4 : 4 ≤ n) (h12 : n ≤ 12) : ∃ N : Nat, N ≤ 49152 ∧ 2 ^ n ≤ N ∧ wrap64 ((n : Int) * 2 ^ n) = (N : Int) := by
  have h : ∀ n : Nat, n < 13 → 4 ≤ n → n * 2 ^ n ≤ 49152 ∧ 2 ^ n ≤ n * 2 ^ n ∧ wrap64 ((n : Int) * 2 ^ n) = ((n * 2 ^ n : Nat) : Int) := by decide +kernel
  exact ⟨n * 2 ^ n, h n (by omega) h4⟩
theorem or_bit (s k : Nat) (hs : s < 2 ^ k) (hk : k < 12) : ∃ s2 : Nat, s2 < 2 ^ (k + 1) ∧ bits .or .i64 (s : Int) (wrap64 (2 ^ k)) = (s2 : Int) := by
  have hp : wrap64 (2 ^ k) = ((2 ^ k : Nat) : Int) := by
    have h : ∀ k : Nat, k < 12 → wrap64 (2 ^ k) = ((2 ^ k : Nat) : Int) := by decide +kernel
    exact h k hk
  have h12 : 2 ^ k < 2 ^ 12 := Nat.pow_lt_pow_right (by omega) hk
  have hx : s ||| 2 ^ k < 2 ^ (k + 1) := Nat.or_lt_two_pow (by rw [Nat.pow_succ]; omega) (by rw [Nat.pow_succ]; have := Nat.two_pow_pos k; omega)
  have hk1 : 2 ^ (k + 1) ≤ 2 ^ 12 := Nat.pow_le_pow_right (by omega) (by omega)
  refine ⟨s ||| 2 ^ k, hx, ?_⟩
  rw [hp]
  have e : bits .or .i64 (s : Int) ((2 ^ k : Nat) : Int) = IntKind.i64.wrap ((BitVec.ofInt 64 (s : Int) ||| BitVec.ofInt 64 ((2 ^ k : Nat) : Int)).toNat : Int) := rfl
  have h1 : (BitVec.ofInt 64 (s : Int)).toNat = s := by rw [BitVec.ofInt_natCast, BitVec.toNat_ofNat]; exact Nat.mod_eq_of_lt (by omega)
  have h2 : (BitVec.ofInt 64 ((2 ^ k : Nat) : Int)).toNat = 2 ^ k := by rw [BitVec.ofInt_natCast, BitVec.toNat_ofNat]; exact Nat.mod_eq_of_lt (by omega)
  rw [e, BitVec.toNat_or, h1, h2, IntWalk.i64_in _ (by omega)]
set_option maxRecDepth 100000 in
set_option maxHeartbeats 8000000 in
theorem bringSearch_gate (W D n : Nat) (A : Option Addr) (c : Nat) (g : List Int) (w : World) (h : HallAt w W D n A c g) :
    Calls Tryz.prog 48 #[.agg #[.int .i64 W, .int .i64 D, .slice A n c], .int .i64 0] w (RV w (.tuple #[.slice none 0 0, .bool true])) := by
  have hn := h.shp.n12
  have S := h.shp
  have hX1 := Whole.new w 25 [.int .i64 W, .int .i64 D, .slice A n c]
  have hB1 : Below w.heap.size w (w.alloc (.cells #[.int .i64 W, .int .i64 D, .slice A n c] 25)) := (Below.refl _ _).alloc (Nat.le_refl _) _
  have H := Lib.hid h
  clear h
  have hmk : ∀ w : World, (Instr.makeSlice 88 (.int .i64 (n : Int)) (.int .i64 (n : Int))).run Tryz.prog w = .ok (.slice (some ⟨w.heap.size, 0, none⟩) n n) (w.alloc (.cells (madeCells #[.slice none 0 0] n) 23)) :=
    run_make_row' 88 23 (.slice none 0 0) 24 Tryz.underlying88 slc_info rfl .i64 .i64 n (by omega) (by omega)
  obtain ⟨Q, HQ⟩ : ∃ Q, Hid (Q = w.heap.size) := ⟨_, rfl⟩
  have hwQ : w.heap.size ≤ Q := Nat.le_of_eq HQ.out.symm
  have hsz : (w.alloc (.cells #[.int .i64 W, .int .i64 D, .slice A n c] 25)).heap.size = Q + 1 := by rw [HQ.out]; simp
  have hX2 := hX1.alloc (.cells (madeCells #[.slice none 0 0] n) 23)
  have hV2 := made_whole (w.alloc (.cells #[.int .i64 W, .int .i64 D, .slice A n c] 25)) (.slice none 0 0) n 23
  have hB2 := hB1.alloc hB1.size (.cells (madeCells #[.slice none 0 0] n) 23)
  rw [hsz] at hV2
  rw [← HQ.out] at hX2
  clear hX1 hB1 hsz
  go_enter Tryz.func48, Tryz.ntmps48
  go_wp2
  rw [← HQ.out]
  clear hmk
  generalize (w.alloc (.cells #[.int .i64 W, .int .i64 D, .slice A n c] 25)).alloc (.cells (madeCells #[.slice none 0 0] n) 23) = w3 at *
  go_loopw [8, 9, 10, 32] (fun v _ _ i wr => ∃ (k s : Nat) (cs : List Value), k ≤ n ∧ i = .int .i64 k ∧ v = .int .i64 s ∧ s < 2 ^ k ∧ cs.length = n ∧ Whole wr Q 25 [.int .i64 W, .int .i64 D, .slice A n c] ∧ Whole wr (Q + 1) 23 cs ∧ Below w.heap.size w wr) (fun _ _ _ i _ => n - (intOf i).toNat)
  case atStart => exact ⟨0, 0, _, Nat.zero_le _, rfl, rfl, by decide, by simp, hX2, hV2, hB2⟩
  case round =>
    obtain ⟨k, s, cs, hk, rfl, rfl, hs, hcl, hX, hV, hB⟩ := hrel
    clear hX2 hV2 hB2
    have q0 := hX.cell 0
    have q1 := hX.cell 1
    have q2 := hX.cell 2
    simp only [List.getElem?_cons_zero, List.getElem?_cons_succ] at q0 q1 q2
    by_cases hlt : k < n
    · obtain ⟨z, b, off, HZ, rfl, hb, hc⟩ := (H.out.below hB).ints.get hlt
      go_wp2_with fail
      refine (cellsBeside_any W D n _ c g k wr (H.out.below hB) hlt).mono ?_; rintro e w5 ⟨NA, nm, nc, rfl, hOn, hb5⟩
      have hX5 := hX.below hb5
      have hV5 := hV.below hb5
      have hB5 := below_next hB hb5
      clear hX hV hB hOn hb5 q0 q1 q2
      have hu : w5.cell? ⟨Q + 1, k, none⟩ = some (cs.getD k (.slice none 0 0)) := by rw [hV5.cell, List.getD_eq_getElem?_getD, List.getElem?_eq_getElem (by omega)]; rfl
      have hfz := hV5.free k
      have hX6 := hX5.far (p := ⟨Q + 1, k, none⟩) (by show Q ≠ Q + 1; omega) (.slice NA nm nc)
      have hV6 := hV5.set_ k (.slice NA nm nc)
      have hB6 := hB5.setCell (p := ⟨Q + 1, k, none⟩) (by show w.heap.size ≤ Q + 1; omega) (.slice NA nm nc)
      by_cases hz : z = 0
      · subst hz
        obtain ⟨s2, hs2, hor⟩ := or_bit s k hs (by omega)
        go_wp2
        go_roundw
        case rel => exact ⟨k + 1, s2, _, by omega, by go_num, rfl, hs2, by simp [hcl], hX6, hV6, hB6⟩
        case measure => simp [intOf]; omega
      · have hzd : (z == 0) = false := by simpa using hz
        clear hz
        go_wp2
        go_roundw
        case rel => exact ⟨k + 1, s, _, by omega, by go_num, rfl, Nat.lt_of_lt_of_le hs (Nat.pow_le_pow_right (by omega) (by omega)), by simp [hcl], hX6, hV6, hB6⟩
        case measure => simp [intOf]; omega
    · obtain rfl : n = k := by omega
      obtain ⟨N, hN1, hN2, hNN⟩ := shl_self n (by omega) (by omega)
      have hmk2 : ∀ w : World, (Instr.makeSlice 89 (.int .i64 (N : Int)) (.int .i64 (N : Int))).run Tryz.prog w = .ok (.slice (some ⟨w.heap.size, 0, none⟩) N N) (w.alloc (.cells (madeCells #[.int .i32 0] N) 21)) :=
        run_make_row' 89 21 (.int .i32 0) 4 Tryz.underlying89 i32_info rfl .i64 .i64 N (by omega) (by omega)
      have hXA := hX.alloc (.cells (madeCells #[.int .i32 0] N) 21)
      have hTA := made_whole wr (.int .i32 0) N 21
      have hBA := hB.alloc hB.size (.cells (madeCells #[.int .i32 0] N) 21)
      obtain ⟨T, hT⟩ : ∃ T, Hid (T = wr.heap.size) := ⟨_, rfl⟩
      have hQT : Q < T := by rw [hT.out]; exact hX.lt
      rw [← hT.out] at hTA
      have HS := Lib.hid hs
      clear hX hV hB q0 q1 q2 hs
      go_wp2
      rw [← hT.out]
      clear hmk2 hNN hT
      generalize wr.alloc (.cells (madeCells #[.int .i32 0] N) 21) = wa at *
      go_loopw [12, 56] (fun _ i wr => ∃ (k : Nat) (cs : List Value), k ≤ N ∧ i = .int .i64 k ∧ cs.length = N ∧ Whole wr T 21 cs ∧ Below w.heap.size w wr) (fun _ i _ => N - (intOf i).toNat)
      case atStart => exact ⟨0, _, Nat.zero_le _, rfl, by simp, hTA, hBA⟩
      case round =>
        obtain ⟨k, cs, hk, rfl, hcl, hTr, hBr⟩ := hrel
        clear hXA hTA hBA
        by_cases hlt : k < N
        · have hu : wr.cell? ⟨T, k, none⟩ = some (cs.getD k (.int .i32 0)) := by rw [hTr.cell, List.getD_eq_getElem?_getD, List.getElem?_eq_getElem (by omega)]; rfl
          have hfz := hTr.free k
          have hT6 := hTr.set_ k (.int .i32 (-1))
          have hB6 := hBr.setCell (p := ⟨T, k, none⟩) (by show w.heap.size ≤ T; omega) (.int .i32 (-1))
          go_wp2
          go_roundw
          case rel => exact ⟨k + 1, _, by omega, by go_num, by simp [hcl], hT6, hB6⟩
          case measure => simp [intOf]; omega
        · obtain rfl : N = k := by omega
          have hsN : s < N := by have := HS.out; omega
          have hu : wr.cell? ⟨T, s, none⟩ = some (cs.getD s (.int .i32 0)) := by rw [hTr.cell, List.getD_eq_getElem?_getD, List.getElem?_eq_getElem (by omega)]; rfl
          have hfz := hTr.free s
          have hTz := (hTr.set_ s (.int .i32 (s : Int))).alloc (.cells #[.int .i64 (s : Int)] 3)
          have hU : Whole ((wr.setCell ⟨T, s, none⟩ (.int .i32 (s : Int))).alloc (.cells #[.int .i64 (s : Int)] 3)) wr.heap.size 3 [.int .i64 (s : Int)] := by
            have := Whole.new (wr.setCell ⟨T, s, none⟩ (.int .i32 (s : Int))) 3 [.int .i64 (s : Int)]
            rwa [show (wr.setCell ⟨T, s, none⟩ (.int .i32 (s : Int))).heap.size = wr.heap.size by simp [World.setCell]] at this
          have hBs := hBr.setCell (p := ⟨T, s, none⟩) (by show w.heap.size ≤ T; omega) (.int .i32 (s : Int))
          have hBz := hBs.alloc hBs.size (.cells #[.int .i64 (s : Int)] 3)
          clear hTz hBs hTr hBr
          go_wp2
          obtain ⟨U, hUU⟩ : ∃ U, Hid (U = wr.heap.size) := ⟨_, rfl⟩
          rw [← hUU.out] at hU ⊢
          clear hUU hu hfz
          generalize (wr.setCell ⟨T, s, none⟩ (.int .i32 (s : Int))).alloc (.cells #[.int .i64 (s : Int)] 3) = wz at *
          have u0 : wz.cell? ⟨U, 0, none⟩ = some (.int .i64 (s : Int)) := hU.cell 0
          go_loopw [13, 14, 15, 16, 17, 19, 20] (fun v i _ _ _ _ _ wx => v = .slice (some ⟨U, 0, none⟩) 1 1 ∧ i = .int .i64 0 ∧ wx = wz) (fun _ _ _ _ _ _ _ _ => 0)
          case atStart => exact ⟨rfl, rfl, rfl⟩
          case round =>
            obtain ⟨rfl, rfl, rfl⟩ := hrel
            have hdv : (s : Int) / 2 ^ n = 0 := by
              have h1 : s / 2 ^ n = 0 := Nat.div_eq_of_lt HS.out
              have h2 : ((s / 2 ^ n : Nat) : Int) = (s : Int) / ((2 ^ n : Nat) : Int) := Int.natCast_ediv s (2 ^ n)
              rw [h1] at h2
              have h3 : ((2 ^ n : Nat) : Int) = (2 : Int) ^ n := by push_cast; rfl
              rw [h3] at h2
              exact h2.symm
            go_wp2_with fail
            refine (slidesTo_same _ s n _ (by omega)).mono ?_; rintro e w1 ⟨rfl, rfl⟩
            go_wp2
            go_ret2
            exact ⟨rfl, hBz⟩
set_option maxRecDepth 100000 in
set_option maxHeartbeats 4000000 in
theorem bringBest_gate (W D n : Nat) (A : Option Addr) (c : Nat) (g : List Int) (id : Int) (w : World) (h : HallAt w W D n A c g) (hid : 1 ≤ id) (hx : Lib.idxOf g id = 0) :
    Calls Tryz.prog 27 #[.agg #[.int .i64 W, .int .i64 D, .slice A n c], .int .i64 id] w (RV w (.tuple #[.slice none 0 0, .bool true])) := by
  have hX1 := Whole.new w 25 [.int .i64 W, .int .i64 D, .slice A n c]
  have hB1 : Below w.heap.size w (w.alloc (.cells #[.int .i64 W, .int .i64 D, .slice A n c] 25)) := (Below.refl _ _).alloc (Nat.le_refl _) _
  have H := Lib.hid h
  have HX := Lib.hid hx
  clear h hx
  obtain ⟨Q, HQ⟩ : ∃ Q, Hid (Q = w.heap.size) := ⟨_, rfl⟩
  go_enter Tryz.func27, Tryz.ntmps27
  go_wp2_with fail
  rw [← HQ.out] at hX1 ⊢
  generalize w.alloc (.cells #[.int .i64 W, .int .i64 D, .slice A n c] 25) = w1 at *
  refine (hallFind_any W D n A c g id _ (H.out.below hB1) hid).mono ?_; rintro e w2 ⟨rfl, hb2⟩
  rw [HX.out]
  have hX2 := hX1.below hb2
  have hB2 := below_next hB1 hb2
  clear hX1 hB1 hb2
  have q0 := hX2.cell 0
  have q1 := hX2.cell 1
  have q2 := hX2.cell 2
  simp only [List.getElem?_cons_zero, List.getElem?_cons_succ] at q0 q1 q2
  go_wp2_with fail
  refine (bringSearch_gate W D n A c g _ (H.out.below hB2)).mono ?_; rintro e w3 ⟨rfl, hb3⟩
  have hB3 := below_next hB2 hb3
  go_wp2
  go_ret2
  exact ⟨rfl, hB3⟩
set_option maxRecDepth 100000 in
set_option maxHeartbeats 4000000 in
theorem doAll_nil (W D n : Nat) (A : Option Addr) (c : Nat) (g : List Int) (w : World) (h : HallAt w W D n A c g) :
    Calls Tryz.prog 20 #[.agg #[.int .i64 W, .int .i64 D, .slice A n c], .slice none 0 0] w (HRes w W D n g) := by
  have hX1 := Whole.new w 25 [.int .i64 W, .int .i64 D, .slice A n c]
  have hX2 := hX1.alloc (.cells #[.int .i64 0, .int .i64 0, .slice none 0 0] 25)
  have hR2 : Whole ((w.alloc (.cells #[.int .i64 W, .int .i64 D, .slice A n c] 25)).alloc (.cells #[.int .i64 0, .int .i64 0, .slice none 0 0] 25)) (w.heap.size + 1) 25 [.int .i64 0, .int .i64 0, .slice none 0 0] := by
    have := Whole.new (w.alloc (.cells #[.int .i64 W, .int .i64 D, .slice A n c] 25)) 25 [.int .i64 0, .int .i64 0, .slice none 0 0]
    simpa using this
  have hB2 : Below w.heap.size w ((w.alloc (.cells #[.int .i64 W, .int .i64 D, .slice A n c] 25)).alloc (.cells #[.int .i64 0, .int .i64 0, .slice none 0 0] 25)) := ((Below.refl _ _).alloc (Nat.le_refl _) _).alloc (by simp) _
  have H := Lib.hid h
  clear h hX1
  obtain ⟨Q, HQ⟩ : ∃ Q, Hid (Q = w.heap.size) := ⟨_, rfl⟩
  have hwQ : w.heap.size ≤ Q := Nat.le_of_eq HQ.out.symm
  go_enter Tryz.func20, Tryz.ntmps20
  go_wp2_with fail
  generalize (w.alloc (.cells #[.int .i64 W, .int .i64 D, .slice A n c] 25)).alloc (.cells #[.int .i64 0, .int .i64 0, .slice none 0 0] 25) = wa at *
  rw [← HQ.out] at hX2 hR2 ⊢
  refine (copyHall_any W D n A c g _ (H.out.below hB2)).mono ?_; rintro e w4 ⟨G, cG, rfl, hO, hb4⟩
  have hR4 := (hR2.below hb4).alloc (.cells #[.int .i64 W, .int .i64 D, .slice (some ⟨G, 0, none⟩) n cG] 25)
  have hB4' := below_next hB2 hb4
  have hB4 := hB4'.alloc hB4'.size (.cells #[.int .i64 W, .int .i64 D, .slice (some ⟨G, 0, none⟩) n cG] 25)
  have hM4 := Whole.new w4 25 [.int .i64 W, .int .i64 D, .slice (some ⟨G, 0, none⟩) n cG]
  have hO4 := Joins.ownsRow_le (own_keep hO ((Below.refl w4.heap.size w4).alloc (Nat.le_refl _) (.cells #[.int .i64 W, .int .i64 D, .slice (some ⟨G, 0, none⟩) n cG] 25))) hB2.size
  obtain ⟨M, HM⟩ : ∃ M, Hid (M = w4.heap.size) := ⟨_, rfl⟩
  have hMQ : Q + 1 < M := by rw [HM.out]; exact (hR2.below hb4).lt
  have hGQ0 : G ≠ Q + 1 := by have h1 := (hO.lt G rfl).1; have h2 := hR2.lt; omega
  go_wp2
  rw [← HM.out] at hM4 ⊢
  clear hX2 hR2 hB2 hb4 hO hB4' HM
  generalize w4.alloc (.cells #[.int .i64 W, .int .i64 D, .slice (some ⟨G, 0, none⟩) n cG] 25) = w5 at *
  go_loopw [12] (fun t wr => t = .int .i64 0 ∧ wr = w5) (fun _ _ => 0)
  case atStart => exact ⟨rfl, rfl⟩
  case round =>
    obtain ⟨rfl, rfl⟩ := hrel
    have m0 := hM4.cell 0
    have m1 := hM4.cell 1
    have m2 := hM4.cell 2
    have r0 := hR4.cell 0
    have r1 := hR4.cell 1
    have r2 := hR4.cell 2
    have f0 := hR4.free 0
    have f1 := hR4.free 1
    have f2 := hR4.free 2
    simp only [List.getElem?_cons_zero, List.getElem?_cons_succ] at m0 m1 m2 r0 r1 r2
    have hRz := ((hR4.set_ 0 (.int .i64 W)).set_ 1 (.int .i64 D)).set_ 2 (.slice (some ⟨G, 0, none⟩) n cG)
    have hOz := own_off (own_off (own_off hO4 (p := ⟨Q + 1, 0, none⟩) hGQ0 (.int .i64 W)) (p := ⟨Q + 1, 1, none⟩) hGQ0 (.int .i64 D)) (p := ⟨Q + 1, 2, none⟩) hGQ0 (.slice (some ⟨G, 0, none⟩) n cG)
    have hBz := ((hB4.setCell (p := ⟨Q + 1, 0, none⟩) (by show w.heap.size ≤ Q + 1; omega) (.int .i64 W)).setCell (p := ⟨Q + 1, 1, none⟩) (by show w.heap.size ≤ Q + 1; omega) (.int .i64 D)).setCell (p := ⟨Q + 1, 2, none⟩) (by show w.heap.size ≤ Q + 1; omega) (.slice (some ⟨G, 0, none⟩) n cG)
    clear hM4 hR4 hO4 hB4
    go_wp2
    generalize ((wr.setCell ⟨Q + 1, 0, none⟩ (.int .i64 W)).setCell ⟨Q + 1, 1, none⟩ (.int .i64 D)).setCell ⟨Q + 1, 2, none⟩ (.slice (some ⟨G, 0, none⟩) n cG) = wz at *
    have e0 : wz.cell? ⟨Q + 1, 0, none⟩ = some (.int .i64 W) := hRz.cell 0
    have e1 : wz.cell? ⟨Q + 1, 1, none⟩ = some (.int .i64 D) := hRz.cell 1
    have e2 : wz.cell? ⟨Q + 1, 2, none⟩ = some (.slice (some ⟨G, 0, none⟩) n cG) := hRz.cell 2
    exact bodyPost_ret (v := .agg #[.int .i64 W, .int .i64 D, .slice (some ⟨G, 0, none⟩) n cG]) (by simp [results, Tryz.results20, go_sem, e0, e1, e2]) rfl ⟨G, cG, rfl, hOz, hBz⟩
set_option maxRecDepth 100000 in
set_option maxHeartbeats 4000000 in
theorem fetchDo_gate (W D n : Nat) (A : Option Addr) (c : Nat) (g : List Int) (id : Int) (w : World) (h : HallAt w W D n A c g) (hid : 1 ≤ id) (hx : Lib.idxOf g id = 0) :
    Calls Tryz.prog 10 #[.agg #[.int .i64 W, .int .i64 D, .slice A n c], .int .i64 id] w (SIRes w W D n (g.set 0 0, 0)) := by
  have hn := h.shp.n12
  have hX1 := Whole.new w 25 [.int .i64 W, .int .i64 D, .slice A n c]
  have hX2 := hX1.alloc (.cells #[.int .i64 0, .int .i64 0, .slice none 0 0] 25)
  have hR2 : Whole ((w.alloc (.cells #[.int .i64 W, .int .i64 D, .slice A n c] 25)).alloc (.cells #[.int .i64 0, .int .i64 0, .slice none 0 0] 25)) (w.heap.size + 1) 25 [.int .i64 0, .int .i64 0, .slice none 0 0] := by
    have := Whole.new (w.alloc (.cells #[.int .i64 W, .int .i64 D, .slice A n c] 25)) 25 [.int .i64 0, .int .i64 0, .slice none 0 0]
    simpa using this
  have hB2 : Below w.heap.size w ((w.alloc (.cells #[.int .i64 W, .int .i64 D, .slice A n c] 25)).alloc (.cells #[.int .i64 0, .int .i64 0, .slice none 0 0] 25)) := ((Below.refl _ _).alloc (Nat.le_refl _) _).alloc (by simp) _
  have H := Lib.hid h
  have HX := Lib.hid hx
  clear h hX1 hx
  obtain ⟨Q, HQ⟩ : ∃ Q, Hid (Q = w.heap.size) := ⟨_, rfl⟩
  have hwQ : w.heap.size ≤ Q := Nat.le_of_eq HQ.out.symm
  go_enter Tryz.func10, Tryz.ntmps10
  go_wp2_with fail
  generalize (w.alloc (.cells #[.int .i64 W, .int .i64 D, .slice A n c] 25)).alloc (.cells #[.int .i64 0, .int .i64 0, .slice none 0 0] 25) = wa at *
  rw [← HQ.out] at hX2 hR2 ⊢
  refine (hallValid_any W D A n c g _ (by omega) (H.out.ints.below hB2)).mono ?_; rintro e w3 ⟨rfl, hb3⟩
  rw [H.out.ok]
  have hX3 := hX2.below hb3
  have hR3 := hR2.below hb3
  have hB3 := below_next hB2 hb3
  clear hX2 hR2 hB2 hb3
  have x0 := hX3.cell 0
  have x1 := hX3.cell 1
  have x2 := hX3.cell 2
  simp only [List.getElem?_cons_zero, List.getElem?_cons_succ] at x0 x1 x2
  go_wp2_with fail
  refine (bringBest_gate W D n A c g id _ (H.out.below hB3) hid HX.out).mono ?_; rintro e w4 ⟨rfl, hb4⟩
  have hX4 := hX3.below hb4
  have hR4 := hR3.below hb4
  have hB4 := below_next hB3 hb4
  clear hX3 hR3 hB3 hb4 x0 x1 x2
  have x0 := hX4.cell 0
  have x1 := hX4.cell 1
  have x2 := hX4.cell 2
  simp only [List.getElem?_cons_zero, List.getElem?_cons_succ] at x0 x1 x2
  go_wp2_with fail
  refine (doAll_nil W D n A c g _ (H.out.below hB4)).mono ?_; rintro e w5 ⟨G, cG, rfl, hO5, hb5⟩
  have hb6 : Below w5.heap.size w5 (w5.alloc (.cells #[.int .i64 W, .int .i64 D, .slice (some ⟨G, 0, none⟩) n cG] 25)) := (Below.refl _ _).alloc (Nat.le_refl _) _
  have hR6 := (hR4.below hb5).below hb6
  have hB6 := below_next (below_next hB4 hb5) hb6
  have hO6 := Joins.ownsRow_le (own_keep hO5 hb6) hB4.size
  have hM6 := Whole.new w5 25 [.int .i64 W, .int .i64 D, .slice (some ⟨G, 0, none⟩) n cG]
  obtain ⟨M, HM⟩ : ∃ M, Hid (M = w5.heap.size) := ⟨_, rfl⟩
  have hQM : Q + 1 < M := by rw [HM.out]; exact (hR4.below hb5).lt
  have hGM : G < M := by rw [HM.out]; exact (hO5.lt G rfl).2
  have hGQ : Q + 1 < G := by have h1 := (hO5.lt G rfl).1; have h2 := hR4.lt; omega
  rw [← HM.out] at hM6
  clear hX4 hR4 hB4 hb5 hb6 hO5 x0 x1 x2
  go_upto_region 7 with fail
  rw [← HM.out]
  clear HM
  generalize w5.alloc (.cells #[.int .i64 W, .int .i64 D, .slice (some ⟨G, 0, none⟩) n cG] 25) = w6 at *
  have m2 := hM6.cell 2
  simp only [List.getElem?_cons_zero, List.getElem?_cons_succ] at m2
  obtain ⟨⟨u, hu⟩, hfz, -, -⟩ := own_cell (i := 0) hO6 (by omega)
  have hR7 := hR6.far (p := ⟨G, 0, none⟩) (by show Q + 1 ≠ G; omega) (.int .i64 0)
  have hM7 := hM6.far (p := ⟨G, 0, none⟩) (by show M ≠ G; omega) (.int .i64 0)
  have hO7 := own_set (i := 0) hO6 0
  have hB7 := hB6.setCell (p := ⟨G, 0, none⟩) (by show w.heap.size ≤ G; omega) (.int .i64 0)
  go_upto_region 8 with fail
  clear m2 hu hfz hR6 hM6 hO6 hB6
  generalize w6.setCell ⟨G, 0, none⟩ (.int .i64 0) = w7 at *
  have m0 := hM7.cell 0
  have m1 := hM7.cell 1
  have m2 := hM7.cell 2
  have r0 := hR7.cell 0
  have r1 := hR7.cell 1
  have r2 := hR7.cell 2
  have f0 := hR7.free 0
  have f1 := hR7.free 1
  have f2 := hR7.free 2
  simp only [List.getElem?_cons_zero, List.getElem?_cons_succ] at m0 m1 m2 r0 r1 r2
  have hGQ0 : G ≠ Q + 1 := by omega
  have hRz := ((hR7.set_ 0 (.int .i64 W)).set_ 1 (.int .i64 D)).set_ 2 (.slice (some ⟨G, 0, none⟩) n cG)
  have hOz := own_off (own_off (own_off hO7 (p := ⟨Q + 1, 0, none⟩) hGQ0 (.int .i64 W)) (p := ⟨Q + 1, 1, none⟩) hGQ0 (.int .i64 D)) (p := ⟨Q + 1, 2, none⟩) hGQ0 (.slice (some ⟨G, 0, none⟩) n cG)
  have hBz := ((hB7.setCell (p := ⟨Q + 1, 0, none⟩) (by show w.heap.size ≤ Q + 1; omega) (.int .i64 W)).setCell (p := ⟨Q + 1, 1, none⟩) (by show w.heap.size ≤ Q + 1; omega) (.int .i64 D)).setCell (p := ⟨Q + 1, 2, none⟩) (by show w.heap.size ≤ Q + 1; omega) (.slice (some ⟨G, 0, none⟩) n cG)
  clear hM7 hR7 hO7 hB7
  go_wp2
  generalize ((w7.setCell ⟨Q + 1, 0, none⟩ (.int .i64 W)).setCell ⟨Q + 1, 1, none⟩ (.int .i64 D)).setCell ⟨Q + 1, 2, none⟩ (.slice (some ⟨G, 0, none⟩) n cG) = wz at *
  have e0 : wz.cell? ⟨Q + 1, 0, none⟩ = some (.int .i64 W) := hRz.cell 0
  have e1 : wz.cell? ⟨Q + 1, 1, none⟩ = some (.int .i64 D) := hRz.cell 1
  have e2 : wz.cell? ⟨Q + 1, 2, none⟩ = some (.slice (some ⟨G, 0, none⟩) n cG) := hRz.cell 2
  exact bodyPost_ret (v := .tuple #[.agg #[.int .i64 W, .int .i64 D, .slice (some ⟨G, 0, none⟩) n cG], .int .i64 0]) (by simp [results, Tryz.results10, go_sem, e0, e1, e2]) rfl ⟨G, cG, rfl, hOz, hBz⟩
end Go.Proofs.YtdebjcempkgeaaaGreatDoor
