/-
  stepsTo of the program: how far each cell is from the gate.
-/
import Derived.Test.YtdebjcempkgeaaaGreatDoorFetchP
import Derived.Test.YtdebjcempkgeaaaGreatDoorHallD
import Derived.Test.YtdebjcempkgeaaaGreatDoorOwnG
import Derived.Deep.RegionWith
namespace Go.Proofs.YtdebjcempkgeaaaGreatDoor
open Go.ChangeShapes Go.WideShapes Go.ChangeAt Go.RowKit

/-- the queue in memory -/
def ci (q : List Nat) : List Int := q.map fun (j : Nat) => (j : Int)
theorem ci_get {q : List Nat} {k x : Nat} (h : q[k]? = some x) : (ci q)[k]? = some (x : Int) := by unfold ci; rw [List.getElem?_map, h]; rfl
theorem rep_next {k n : Nat} (h : k < n) : (List.replicate k (-1 : Int) ++ List.replicate (n - k) 0).set k (-1) = List.replicate (k + 1) (-1 : Int) ++ List.replicate (n - (k + 1)) 0 := by
  rw [List.set_append_right _ _ (by simp)]
  have e : n - k = (n - (k + 1)) + 1 := by omega
  simp only [List.length_replicate, Nat.sub_self]
  rw [e, List.replicate_succ, List.set_cons_zero, List.replicate_succ', List.append_assoc]
  rfl

/-- How the search's lists lie: the steps in block M, the queue in block U. -/
structure MBfs (w0 w : World) (Q M U cU m n : Nat) (hall : List Value) (s : List Int × List Nat) : Prop where
  st : w.ownsRow M 3 1 (.slice (some ⟨M, 0, none⟩) n n) n (s.1.map (Value.int .i64))
  qu : w.ownsRow M 3 1 (.slice (some ⟨U, 0, none⟩) m cU) m ((ci s.2).map (Value.int .i64))
  ne : U ≠ M
  ql : Q < M
  wM : w0.heap.size ≤ M
  ml : m = s.2.length
  box : Whole w Q 25 hall
  bel : Below w0.heap.size w0 w
theorem MBfs.below {w0 w w' : World} {Q M U cU m n : Nat} {hall : List Value} {s : List Int × List Nat} (h : MBfs w0 w Q M U cU m n hall s) (hb : Below w.heap.size w w') : MBfs w0 w' Q M U cU m n hall s :=
  ⟨own_keep h.st hb, own_keep h.qu hb, h.ne, h.ql, h.wM, h.ml, h.box.below hb, below_next h.bel hb⟩
theorem MBfs.put {w0 w : World} {Q M U cU m n : Nat} {hall : List Value} {s : List Int × List Nat} (h : MBfs w0 w Q M U cU m n hall s) (x : Nat) (z : Int) : MBfs w0 (w.setCell ⟨M, x, none⟩ (.int .i64 z)) Q M U cU m n hall (s.1.set x z, s.2) :=
  ⟨own_set h.st z, own_off h.qu (p := ⟨M, x, none⟩) h.ne _, h.ne, h.ql, h.wM, h.ml, h.box.far (p := ⟨M, x, none⟩) (by have := h.ql; show Q ≠ M; omega) _, h.bel.setCell (p := ⟨M, x, none⟩) h.wM _⟩
theorem MBfs.push {w0 w w' : World} {Q M U cU m n g' c' : Nat} {hall : List Value} {s : List Int × List Nat} {x : Nat} (h : MBfs w0 w Q M U cU m n hall s)
    (ho : w'.ownsRow M 3 1 (.slice (some ⟨g', 0, none⟩) (m + 1) c') (m + 1) ((ci s.2 ++ [(x : Int)]).map (Value.int .i64))) {o : Obj} (hg : (w.alloc o).grownBy w' (some U)) (hq : U = g' ∨ g' = w.heap.size + 1) :
    MBfs w0 w' Q M g' c' (m + 1) n hall (s.1, s.2 ++ [x]) := by
  have hM := (h.st.lt M rfl).2
  have hU := h.qu.lt U rfl
  have hQ := h.box.lt
  have hB1 := h.bel.alloc h.bel.size o
  refine ⟨ownG_blk h.st (blk_grow hg hM (by intro e; injection e with e; exact h.ne e.symm)), ?_, ?_, h.ql, h.wM, by simp [h.ml], ?_, hB1.grown hg hB1.size (fun k hk => ?_)⟩
  · have e : ci (s.2 ++ [x]) = ci s.2 ++ [(x : Int)] := by simp [ci]
    show w'.ownsRow M _ 1 _ _ ((ci (s.2 ++ [x])).map _)
    rw [e]; exact ho
  · rcases hq with rfl | rfl
    · exact h.ne
    · omega
  · exact (blk_grow hg hQ (by intro e; injection e with e; have := h.ql; omega)).trans h.box
  · injection hk with hk; subst hk; have := h.wM; omega
/-- The cells beside one, in a block of their own. -/
structure NearAt (w : World) (Q M U N : Nat) (cN L : Nat) (xs : List Int) : Prop where
  own : w.ownsRow 0 3 1 (.slice (some ⟨N, 0, none⟩) L cN) L (xs.map (Value.int .i64))
  nU : N ≠ U
  nM : N ≠ M
  nQ : N ≠ Q
theorem NearAt.put {w : World} {Q M U N cN L : Nat} {xs : List Int} (h : NearAt w Q M U N cN L xs) (x : Nat) (v : Value) : NearAt (w.setCell ⟨M, x, none⟩ v) Q M U N cN L xs :=
  ⟨own_off h.own (p := ⟨M, x, none⟩) h.nM v, h.nU, h.nM, h.nQ⟩
theorem NearAt.push {w w' : World} {Q M U N cN L g' : Nat} {xs : List Int} (h : NearAt w Q M U N cN L xs) {o : Obj} (hg : (w.alloc o).grownBy w' (some U)) (hq : U = g' ∨ g' = w.heap.size + 1) : NearAt w' Q M g' N cN L xs := by
  have hN := (h.own.lt N rfl).2
  refine ⟨ownG_blk h.own (blk_grow hg hN (by intro e; injection e with e; exact h.nU e)), ?_, h.nM, h.nQ⟩
  rcases hq with rfl | rfl
  · exact h.nU
  · omega

set_option maxRecDepth 100000 in
set_option maxHeartbeats 8000000 in
theorem stepsTo_any (W D n : Nat) (A : Option Addr) (c : Nat) (g : List Int) (w : World) (h : HallAt w W D n A c g) :
    Calls Tryz.prog 55 #[.agg #[.int .i64 W, .int .i64 D, .slice A n c], .int .i64 0, .int .i64 (-1)] w (LI w (dstL W n)) := by
  have hn := h.shp.n12
  have S := h.shp
  have hX1 := Whole.new w 25 [.int .i64 W, .int .i64 D, .slice A n c]
  have hB1 : Below w.heap.size w (w.alloc (.cells #[.int .i64 W, .int .i64 D, .slice A n c] 25)) := (Below.refl _ _).alloc (Nat.le_refl _) _
  have H := Lib.hid h
  obtain ⟨i0, hi, hz0, hz1, hz2⟩ := info_parts int_info
  clear h
  obtain ⟨Q, HQ⟩ : ∃ Q, Hid (Q = w.heap.size) := ⟨_, rfl⟩
  go_enter Tryz.func55, Tryz.ntmps55
  go_wp2_with (at_make; refine wpList_make_full _ rfl _ _ 23 rfl (w.alloc (.cells #[.int .i64 W, .int .i64 D, .slice A n c] 25)).heap.size 3 i0 _ 1 Tryz.underlying23 hi hz0 hz1 .i64 .i64 _ _ n rfl rfl rfl rfl (by rw [hz2]; omega) (by unfold maxLen; omega) (Nat.le_refl _) ?_; intro w2 hown hg)
  rw [made_zeros] at hown
  have hsz : (w.alloc (.cells #[.int .i64 W, .int .i64 D, .slice A n c] 25)).heap.size = Q + 1 := by rw [HQ.out]; simp
  have hX2 := hX1.grow hg (by simp)
  have hB2 := hB1.grown hg hB1.size (by simp)
  rw [hsz] at hown
  rw [← HQ.out] at hX2 ⊢
  clear hX1 hB1 hg hi hz0 hz1 hz2 hsz
  go_loopw [19] (fun i wr => ∃ k : Nat, k ≤ n ∧ i = .int .i64 k ∧ wr.ownsRow (Q + 1) 3 1 (.slice (some ⟨Q + 1, 0, none⟩) n n) n ((List.replicate k (-1 : Int) ++ List.replicate (n - k) 0).map (Value.int .i64)) ∧ Whole wr Q 25 [.int .i64 W, .int .i64 D, .slice A n c] ∧ Below w.heap.size w wr) (fun i _ => n - (intOf i).toNat)
  case atStart => exact ⟨0, Nat.zero_le _, rfl, by simpa using hown, hX2, hB2⟩
  case round =>
    obtain ⟨k, hk, rfl, hO, hX, hB⟩ := hrel
    clear hown hX2 hB2
    by_cases hlt : k < n
    · obtain ⟨⟨u, hu⟩, hfz, -, -⟩ := own_cell hO hlt
      go_wp2
      go_roundw
      case rel => exact ⟨k + 1, by omega, by go_num, by rw [← rep_next hlt]; exact own_set hO (-1), hX.far (p := ⟨Q + 1, k, none⟩) (by show Q ≠ Q + 1; omega) _, hB.setCell (p := ⟨Q + 1, k, none⟩) (by show w.heap.size ≤ Q + 1; rw [← HQ.out]; omega) _⟩
      case measure => simp [intOf]; omega
    · obtain rfl : k = n := by omega
      have hO0 : wr.ownsRow (Q + 1) 3 1 (.slice (some ⟨Q + 1, 0, none⟩) k k) k ((List.replicate k (-1 : Int)).map (Value.int .i64)) := by simpa using hO
      obtain ⟨⟨u, hu⟩, hfz, -, -⟩ := own_cell hO0 (i := 0) (by omega)
      clear hO
      go_wp2
      have hR : (List.replicate k (-1 : Int)).set 0 0 = (bst W k 0).1 := rfl
      have hO1 := own_set hO0 (i := 0) 0
      rw [hR] at hO1
      have hX1 := hX.far (p := ⟨Q + 1, 0, none⟩) (by show Q ≠ Q + 1; omega) (.int .i64 0)
      have hB1 := hB.setCell (p := ⟨Q + 1, 0, none⟩) (by show w.heap.size ≤ Q + 1; rw [← HQ.out]; omega) (.int .i64 0)
      have hMl := hO1.lt (Q + 1) rfl
      obtain ⟨U, hU⟩ : ∃ U, Hid (U = wr.heap.size) := ⟨_, rfl⟩
      have hUs : (wr.setCell ⟨Q + 1, 0, none⟩ (.int .i64 0)).heap.size = U := by rw [hU.out]; simp [World.setCell]
      rw [← hU.out]
      generalize wr.setCell ⟨Q + 1, 0, none⟩ (.int .i64 0) = wa at *
      have hM0 : MBfs w (wa.alloc (.cells #[.int .i64 0] 3)) Q (Q + 1) U 1 1 k [.int .i64 W, .int .i64 D, .slice A k c] (bst W k 0) := by
        have hq : Whole (wa.alloc (.cells #[.int .i64 0] 3)) U 3 [.int .i64 0] := by rw [← hUs]; exact Whole.new _ _ _
        have hq2 := (hq.own (base := Q + 1) (rs := [[.int .i64 0]]) (n := 1) (sz := 1) rfl (by simp) (by omega) (by unfold maxLen; omega)).own
        exact ⟨own_keep hO1 ((Below.refl _ _).alloc (Nat.le_refl _) _), hq2, by omega, by omega, by rw [← HQ.out]; omega, rfl, hX1.alloc _, hB1.alloc hB1.size _⟩
      clear hO0 hO1 hX1 hB1 hX hB hu hfz hR
      clear hMl hUs hU
      generalize wa.alloc (.cells #[.int .i64 0] 3) = wb at *
      go_loopw [9, 10] (fun v t wr => ∃ i m U cU : Nat, i ≤ m ∧ m ≤ 12 ∧ t = .int .i64 i ∧ v = .slice (some ⟨U, 0, none⟩) m cU ∧ Hid (MBfs w wr Q (Q + 1) U cU m k [.int .i64 W, .int .i64 D, .slice A k c] (bst W k i))) (fun _ t _ => 12 - (intOf t).toNat)
      case atStart => exact ⟨0, 1, U, 1, by omega, by omega, rfl, rfl, Lib.hid hM0⟩
      case round =>
        obtain ⟨i, m, U2, cU, him, hm12, rfl, rfl, HM⟩ := hrel
        clear hM0
        by_cases hlt2 : i < m
        · have hlen : i < (bst W k i).2.length := by rw [← HM.out.ml]; exact hlt2
          have hi12 : i ≤ 12 := by omega
          obtain ⟨y, hy⟩ : ∃ y, Hid (y = (bst W k i).2.getD i 0) := ⟨_, rfl⟩
          have OK : Hid (∀ j, j ≤ 4 → BOk W k i y (binn W k y (bst W k i) j)) := Lib.hid fun j hj => by rw [hy.out]; exact bfs_ok S hi12 hj hlen
          have HN1 : Hid (bst W k (i + 1) = binn W k y (bst W k i) 4) := Lib.hid (by rw [hy.out]; rfl)
          have ok0 : BOk W k i y (bst W k i) := OK.out 0 (by omega)
          have hyk := ok0.cn
          have hqc := ownI_get HM.out.qu (ci_get ok0.at_)
          have hx0 : wr.cell? ⟨Q, 0, none⟩ = some (.int .i64 W) := HM.out.box.cell 0
          have hx1 : wr.cell? ⟨Q, 1, none⟩ = some (.int .i64 D) := HM.out.box.cell 1
          have hx2 : wr.cell? ⟨Q, 2, none⟩ = some (.slice A k c) := HM.out.box.cell 2
          have hb4 := ok0.b4
          have hb1 := ok0.b1
          have HL1 : Hid ((besP W y k).length = (besN W k y).length) := Lib.hid (by rw [besP_map]; simp)
          clear ok0 hlen
          go_wp2
          refine wp_region_held_drew (S := (fun w' => w'.cell? ⟨Q, 0, none⟩ = some (.int .i64 W) ∧ w'.cell? ⟨Q, 1, none⟩ = some (.int .i64 D) ∧ w'.cell? ⟨Q, 2, none⟩ = some (.slice A k c) ∧ w'.cell? ⟨U2, i, none⟩ = some (.int .i64 y))) (by kernel_rfl) ?_ (fun hHeld => ?_)
          · (try dsimp only); (first | exact ⟨hx0, hx1, hx2, hqc⟩ | exact ⟨HM5.out.box.cell 0, HM5.out.box.cell 1, HM5.out.box.cell 2, hqc5⟩)
          refine wpAnyH_take (i := 0) (v := ?vq1_0_1) (by simp only [List.getElem?_toArray, List.getElem?_cons_zero]; rfl) (by kernel_rfl) (by kernel_rfl) (by kernel_rfl) (by exact fun _ _ _ h => h) (Or.inl ⟨by rfl, ?hq1_0_1⟩) hHeld ?rq1_0_1
          case hq1_0_1 => (intro w hSw; (try dsimp only at hSw); go_simp; (try with_reducible rfl))
          try simp only [put_laws]
          refine wpAnyH_take (i := 1) (v := ?vq1_1_2) (by simp only [List.getElem?_toArray, List.getElem?_cons_succ, List.getElem?_cons_zero]; rfl) (by kernel_rfl) (by kernel_rfl) (by kernel_rfl) (by exact fun _ _ _ h => h) (Or.inl ⟨by rfl, ?hq1_1_2⟩) hHeld ?rq1_1_2
          case hq1_1_2 => (intro w hSw; (try dsimp only at hSw); go_simp; (try with_reducible rfl))
          try simp only [put_laws]
          refine wpAnyH_take (i := 2) (v := ?vq1_2_3) (by simp only [List.getElem?_toArray, List.getElem?_cons_succ, List.getElem?_cons_zero]; rfl) (by kernel_rfl) (by kernel_rfl) (by kernel_rfl) (by exact fun _ _ _ h => h) (Or.inl ⟨by rfl, ?hq1_2_3⟩) hHeld ?rq1_2_3
          case hq1_2_3 => (intro w hSw; (try dsimp only at hSw); go_simp; (try with_reducible rfl))
          try simp only [put_laws]
          refine wpAnyH_take (i := 3) (v := ?vq1_3_4) (by simp only [List.getElem?_toArray, List.getElem?_cons_succ, List.getElem?_cons_zero]; rfl) (by kernel_rfl) (by kernel_rfl) (by kernel_rfl) (by exact fun _ _ _ h => h) (Or.inl ⟨by rfl, ?hq1_3_4⟩) hHeld ?rq1_3_4
          case hq1_3_4 => (intro w hSw; (try dsimp only at hSw); go_simp; (try with_reducible rfl))
          try simp only [put_laws]
          refine wpAnyH_take (i := 4) (v := ?vq1_4_5) (by simp only [List.getElem?_toArray, List.getElem?_cons_succ, List.getElem?_cons_zero]; rfl) (by kernel_rfl) (by kernel_rfl) (by kernel_rfl) (by exact fun _ _ _ h => h) (Or.inl ⟨by rfl, ?hq1_4_5⟩) hHeld ?rq1_4_5
          case hq1_4_5 => (intro w hSw; (try dsimp only at hSw); go_simp; (try with_reducible rfl))
          try simp only [put_laws]
          refine wpAnyH_take (i := 7) (v := ?vq1_7_6) (by simp only [List.getElem?_toArray, List.getElem?_cons_succ, List.getElem?_cons_zero]; rfl) (by kernel_rfl) (by kernel_rfl) (by kernel_rfl) (by exact fun _ _ _ h => h) (Or.inl ⟨by rfl, ?hq1_7_6⟩) hHeld ?rq1_7_6
          case hq1_7_6 => (intro w hSw; (try dsimp only at hSw); go_simp; (try with_reducible rfl))
          try simp only [put_laws]
          refine wpAnyH_ready (rs := [5]) (by kernel_rfl) (by simp) ?_
          refine AllReadyH.cons (by simp only [List.getElem?_toArray, List.getElem?_cons_succ, List.getElem?_cons_zero]; rfl) (fun K hK => ?_) AllReadyH.nil
          go_simp
          (refine (cellsBeside_any W D k A c g y _ (H.out.below HM.out.bel.drew) hyk).mono ?_; rintro e w5 ⟨B, L, cN, rfl, hON, hb5⟩; have HM5 := Lib.hid (HM.out.below ((Below.refl wr.heap.size wr).drew.trans hb5)); have hqc5 := (hb5.cell (p := ⟨U2, i, none⟩) (HM.out.qu.lt U2 rfl).2).trans hqc)
          refine hK.out _ _ ?_ (fun hHeld => ?_)
          · (try dsimp only); (first | exact ⟨hx0, hx1, hx2, hqc⟩ | exact ⟨HM5.out.box.cell 0, HM5.out.box.cell 1, HM5.out.box.cell 2, hqc5⟩)
          clear hK K
          try simp only [put_laws]
          refine wpAnyH_take (i := 6) (v := ?vq1_6_8) (by simp only [List.getElem?_toArray, List.getElem?_cons_succ, List.getElem?_cons_zero]; rfl) (by kernel_rfl) (by kernel_rfl) (by kernel_rfl) (by exact fun _ _ _ h => h) (Or.inl ⟨by rfl, ?hq1_6_8⟩) hHeld ?rq1_6_8
          case hq1_6_8 => (intro w hSw; (try dsimp only at hSw); go_simp; (try with_reducible rfl))
          try simp only [put_laws]
          refine wpAnyH_done (by kernel_rfl) ?_ _
          have hLL : L = (besN W k y).length := by have h1 := hON.1; simp at h1; rw [← HL1.out]; exact h1.symm
          obtain ⟨N, rfl⟩ := own_block hON (by omega)
          have hNl := hON.lt N rfl
          have hUl := HM.out.qu.lt U2 rfl
          have hMl := HM.out.st.lt (Q + 1) rfl
          have hwd : wr.drew.heap.size = wr.heap.size := rfl
          have NA : Hid (NearAt w5 Q (Q + 1) U2 N cN L (besP W y k)) := Lib.hid ⟨Joins.ownsRow_le hON (Nat.zero_le _), by omega, by omega, by omega⟩
          have HLL := Lib.hid hLL
          have hcap := (ints_own hON).2
          clear hHeld hx0 hx1 hx2 hqc hqc5 hON hb5 HL1 hNl hUl hMl hwd
          have hL1 : 1 ≤ L := by omega
          have hL4 : L ≤ 4 := by omega
          clear hLL hb4 hb1
          go_wp2
          go_loopw [9, 44] (fun v t wr => ∃ j U cU m : Nat, j ≤ L ∧ i < m ∧ m ≤ 12 ∧ t = .int .i64 j ∧ v = .slice (some ⟨U, 0, none⟩) m cU ∧ Hid (MBfs w wr Q (Q + 1) U cU m k [.int .i64 W, .int .i64 D, .slice A k c] (binn W k y (bst W k i) j)) ∧ Hid (NearAt wr Q (Q + 1) U N cN L (besP W y k))) (fun _ t _ => L - (intOf t).toNat)
          case atStart => exact ⟨0, U2, cU, m, by omega, hlt2, by omega, rfl, rfl, HM5, NA⟩
          case round =>
            obtain ⟨j, U3, cU3, m3, hj, him3, hm3, rfl, rfl, HM6, HA6⟩ := hrel
            clear HM HM5 NA hlt2 him
            have okj := OK.out j (by omega)
            have hml := HM6.out.ml
            have hm3n : m3 ≤ k := by have := okj.ql; omega
            by_cases hjl : j < L
            · obtain ⟨x, hx⟩ : ∃ x, (besN W k y)[j]? = some x := ⟨_, List.getElem?_eq_getElem (by rw [← HLL.out]; exact hjl)⟩
              have hxk : x < k := besN_lt (List.mem_of_getElem? hx)
              have HNX : Hid (binn W k y (bst W k i) (j + 1) = bstep y (binn W k y (bst W k i) j) x) := Lib.hid (binn_next hx)
              have hnc := ownI_get HA6.out.own (show (besP W y k)[j]? = some (x : Int) by rw [besP_map, List.getElem?_map, hx]; rfl)
              obtain ⟨s, hs⟩ : ∃ s, Hid (s = binn W k y (bst W k i) j) := ⟨_, rfl⟩
              rw [← hs.out] at okj HM6 HNX
              obtain ⟨z, hz⟩ : ∃ z, s.1[x]? = some z := ⟨_, List.getElem?_eq_getElem (by rw [okj.len]; exact hxk)⟩
              have hzc := ownI_get HM6.out.st hz
              have hzf := ownG_free HM6.out.st x
              have hyc := ownI_get HM6.out.st okj.far
              have hqc := ownI_get HM6.out.qu (ci_get okj.at_)
              obtain ⟨e, he⟩ : ∃ e, Hid (e = dN W y) := ⟨_, rfl⟩
              have he5 : e ≤ 5 := by rw [he.out]; exact dN_le S hyk
              rw [← he.out] at hyc
              have hzd : Hid (s.1.getD x 0 = z ∧ s.1.getD y 0 = (e : Int)) := Lib.hid ⟨by simp [hz], by rw [he.out]; simp [okj.far]⟩
              have hxn : ((x : Int) != -1) = true := by simp
              clear okj hx hz hml
              by_cases hz0 : z < 0
              · have HST : Hid (bstep y s x = (s.1.set x ((e : Int) + 1), s.2 ++ [x])) := Lib.hid (by unfold bstep; rw [hzd.out.1, hzd.out.2, if_pos hz0])
                have hd0 : decide (z < 0) = true := by simpa using hz0
                have HP := Lib.hid (HM6.out.put x ((e : Int) + 1))
                have HAP := Lib.hid (HA6.out.put x (.int .i64 ((e : Int) + 1)))
                have hMl := (HM6.out.st.lt (Q + 1) rfl).2
                have HSZ : Hid ((wr.setCell ⟨Q + 1, x, none⟩ (.int .i64 ((e : Int) + 1))).heap.size = wr.heap.size) := Lib.hid (by simp [World.setCell])
                go_wp2_with (at_builtin; (refine wpList_moreG (base := Q + 1) rfl (.tmp 69) (.tmp 71) rfl ?_ HP.out.qu (x : Int) rfl ?_ ?_ ?_; (rw [HSZ.out]; omega); (show Value.slice (some ⟨wr.heap.size, 0, none⟩) 1 1 = _; rw [HSZ.out]); omega; intro g' c' w7 hO7 hg7 hq7))
                have hq : U3 = g' ∨ g' = (wr.setCell ⟨Q + 1, x, none⟩ (.int .i64 ((e : Int) + 1))).heap.size + 1 := by
                  rcases hq7 with h | h
                  · injection h with h; exact .inl h
                  · exact .inr h
                have hG : Hid (MBfs w w7 Q (Q + 1) g' c' (m3 + 1) k [.int .i64 W, .int .i64 D, .slice A k c] (binn W k y (bst W k i) (j + 1))) := Lib.hid (by rw [HNX.out, HST.out]; exact HP.out.push hO7 hg7 hq)
                have hm4 : m3 + 1 ≤ 12 := by have h1 := (OK.out (j + 1) (by omega)).ql; have h2 := hG.out.ml; omega
                go_roundw
                case rel => exact ⟨j + 1, g', c', m3 + 1, by omega, by omega, hm4, by go_num, rfl, hG, Lib.hid (HAP.out.push hg7 hq)⟩
                case measure => simp [intOf]; omega
              · have HST : Hid (bstep y s x = s) := Lib.hid (by unfold bstep; rw [hzd.out.1, if_neg hz0])
                have hd0 : decide (z < 0) = false := by simpa using hz0
                clear hz0
                go_wp2
                go_roundw
                case rel => exact ⟨j + 1, U3, cU3, m3, by omega, him3, hm3, by go_num, rfl, by rw [HNX.out, HST.out]; exact HM6, HA6⟩
                case measure => simp [intOf]; omega
            · obtain rfl : j = L := by omega
              have HE : Hid (binn W k y (bst W k i) j = bst W k (i + 1)) := Lib.hid (by rw [HN1.out]; exact binn_all (by rw [← HLL.out]; exact Nat.le_refl _) hL4)
              rw [HE.out] at HM6
              clear okj hml
              go_wp2
              go_roundw
              case rel => exact ⟨i + 1, m3, U3, cU3, by omega, hm3, by go_num, rfl, HM6⟩
              case measure => simp [intOf]; omega
        · obtain rfl : i = m := by omega
          have hend := bfs_end S (i := i) (by omega)
          have hO9 := HM.out.st
          rw [hend.2.2 (by rw [← HM.out.ml]; exact Nat.le_refl _)] at hO9
          clear hend
          go_wp2
          go_ret
          exact ⟨_, _, _, rfl, Joins.ownsRow_le hO9 (by rw [HQ.out]; omega), HM.out.bel⟩
end Go.Proofs.YtdebjcempkgeaaaGreatDoor
