/-
  GiveDown of the program: each car of the order is given the first place that is left.
-/
import Derived.Test.YtmmaeninlhbaaaaDoorSortD
import Derived.Test.YtmmaeninlhbaaaaDoorDownQ
namespace Go.Proofs.YtmmaeninlhbaaaaDoor
open Go.ChangeShapes Go.WideShapes Go.ChangeAt Go.RowKit

/-- Below the heap's size all blocks but D and N are as they were. -/
structure Fr2 (D N : Nat) (w w' : World) : Prop where
  size : w.heap.size ≤ w'.heap.size
  block : ∀ k, k < w.heap.size → k ≠ D → k ≠ N → w'.heap[k]? = w.heap[k]?
theorem Fr2.refl (D N : Nat) (w : World) : Fr2 D N w w := ⟨Nat.le_refl _, fun _ _ _ _ => rfl⟩
theorem Fr2.below {D N : Nat} {w w1 w2 : World} (h : Fr2 D N w w1) (hb : Below w1.heap.size w1 w2) : Fr2 D N w w2 :=
  ⟨Nat.le_trans h.size hb.size, fun k hk h1 h2 => (hb.block k (Nat.lt_of_lt_of_le hk h.size)).trans (h.block k hk h1 h2)⟩
theorem Fr2.set {D N : Nat} {w w1 : World} (h : Fr2 D N w w1) {p : Addr} (hp : p.block = D ∨ p.block = N) (v : Value) : Fr2 D N w (w1.setCell p v) :=
  ⟨by simp [World.setCell]; exact h.size, fun k hk h1 h2 => (Below.heap_setCell w1 p v k (by rcases hp with hp | hp <;> omega)).trans (h.block k hk h1 h2)⟩
theorem SlAt.fr2 {w w' : World} {D N sz n : Nat} {A : Option Addr} {rs : List (List Value)} (h : SlAt w sz A n rs) (hf : Fr2 D N w w') (hA : 0 < n → ∀ x, A = some x → x.block ≠ D ∧ x.block ≠ N) : SlAt w' sz A n rs :=
  ⟨h.len, fun k r hr => by
    obtain ⟨b, off, hA2, hlt, hl, hc⟩ := h.row k r hr
    have hne := hA (by have := (List.getElem?_eq_some_iff.1 hr).1; have := h.len; omega) _ hA2
    refine ⟨b, off, hA2, Nat.lt_of_lt_of_le hlt hf.size, hl, fun j v hv => ?_⟩
    have h1 := hc j v hv
    have h2 := hf.block b hlt hne.1 hne.2
    simp only [World.cell?] at h1 ⊢
    rw [h2]; exact h1⟩
theorem SlAt.low {w : World} {sz n : Nat} {A : Option Addr} {rs : List (List Value)} (h : SlAt w sz A n rs) : 0 < n → ∀ x, A = some x → x.block < w.heap.size := by
  intro h0 x hA
  have hl0 : 0 < rs.length := by have := h.len; omega
  have hr : rs[0]? = some rs[0] := List.getElem?_eq_getElem hl0
  obtain ⟨b, off, hA2, hlt, _⟩ := h.row 0 _ hr
  rw [hA] at hA2; injection hA2 with hA2; subst hA2; exact hlt

set_option maxRecDepth 100000 in
set_option maxHeartbeats 3000000 in
theorem giveDown_any (A : Option Addr) (n c : Nat) (cs : List C4) (P : Option Addr) (m pc : Nat) (ps : List P3) (w : World)
    (hn : n ≤ c ∧ c ≤ 9223372036854775807) (hx : CarsAt w A n cs) (hm : m ≤ 9223372036854775807) (hp : PlacesAt w P m ps) :
    Calls Tryd.prog 10 #[.slice A n c, .slice P m pc] w (OwnR w (giveDL cs ps)) := by
  have hlen := hx.len
  subst hlen
  have HM := Lib.hid hp.len
  have HN := Lib.hid hn
  obtain ⟨i0, hi, hz0, hz1, hz2⟩ := info_parts int_info
  cases hC : carsB cs
  · have HC := Lib.hid hC
    go_enter Tryd.func10, Tryd.ntmps10
    go_wp2_with fail
    refine (carsValid_any A _ c cs _ HN.out hx).mono ?_; rintro e w1 ⟨rfl, hb1⟩
    rw [HC.out]
    go_wp2
    go_ret
    exact ownR_nil hb1 (by simp [giveDL, HC.out])
  have HC := Lib.hid hC
  cases hP : placesB ps
  · have HP := Lib.hid hP
    go_enter Tryd.func10, Tryd.ntmps10
    go_wp2_with fail
    refine (carsValid_any A _ c cs _ HN.out hx).mono ?_; rintro e w1 ⟨rfl, hb1⟩
    rw [HC.out]
    go_wp2_with fail
    refine (placesValid_any P m pc ps _ hm (hp.below hb1)).mono ?_; rintro e w2 ⟨rfl, hb2⟩
    rw [HP.out]
    go_wp2
    go_ret
    exact ownR_nil (below_next hb1 hb2) (by simp [giveDL, HP.out])
  have HP := Lib.hid hP
  have hn6 : cs.length ≤ 6 := carsB_len HC.out
  have hm6 : m ≤ 6 := by rw [← HM.out]; exact placesB_len HP.out
  clear hC hP
  obtain ⟨n, hnn⟩ : ∃ n, n = cs.length := ⟨_, rfl⟩
  rw [← hnn] at hx hn6 HN ⊢
  have HNN := Lib.hid hnn
  clear hnn hn
  go_enter Tryd.func10, Tryd.ntmps10
  go_wp2_with fail
  refine (carsValid_any A n c cs _ HN.out hx).mono ?_; rintro e w1 ⟨rfl, hb1⟩
  rw [HC.out]
  go_wp2_with fail
  refine (placesValid_any P m pc ps _ hm (hp.below hb1)).mono ?_; rintro e w2 ⟨rfl, hb2⟩
  rw [HP.out]
  have hb0 := below_next hb1 hb2
  have hx2 := hx.below hb0
  have hp2 := hp.below hb0
  clear hb1 hb2
  go_wp2_with (first | fail | (at_make; refine wpList_make_full _ rfl _ _ 27 rfl w2.heap.size 3 i0 _ 1 Tryd.underlying27 hi hz0 hz1 .i64 .i64 _ _ n rfl rfl rfl rfl (by rw [hz2]; omega) (by unfold maxLen; omega) (Nat.le_refl _) ?_; intro w3 hown hg))
  rw [made_zeros] at hown
  have hG3 := whole_of_own hown
  have hb3 : Below w2.heap.size w2 w3 := Joins.below_le (B' := w2.heap.size) (Below.grown (Below.refl _ w2) hg (Nat.le_refl _) (by simp)) (Nat.le_refl _)
  clear hown hg
  have hT4 : Whole (w3.alloc (.cells #[.bool false, .bool false, .bool false, .bool false, .bool false, .bool false] 49)) w3.heap.size 49 [.bool false, .bool false, .bool false, .bool false, .bool false, .bool false] := Whole.new w3 _ _
  have hb4 : Below w3.heap.size w3 (w3.alloc (.cells #[.bool false, .bool false, .bool false, .bool false, .bool false, .bool false] 49)) := (Below.refl _ _).alloc (Nat.le_refl _) _
  generalize w3.alloc (.cells #[.bool false, .bool false, .bool false, .bool false, .bool false, .bool false] 49) = w4 at hT4 hb4 ⊢
  have hG4 := hG3.below hb4
  have hb24 := below_next hb3 hb4
  have hx4 := hx2.below hb24
  have hp4 := hp2.below hb24
  have hgl := hG3.lt
  have hg2 : w2.heap.size ≤ w3.heap.size := hb3.size
  have hTl := hT4.lt
  have hlowA := SlAt.low hx2
  have hlowP := SlAt.low hp2
  refine (carsDown_any A n c cs w4 HN.out hx4).mono ?_; rintro e w5 ⟨O, q, oc, rfl, hq, hO5, hb5⟩
  have hdl : downL cs = toI (downK cs n) := by rw [downL_yes HC.out (downK_is cs cs.length), HNN.out]
  have hqn : q = n := by rw [hq, hdl, toI_len, downK_len (downK_is cs n)]
  subst hqn
  have hO6 : FarInts w5 w4.heap.size O q oc (toI (downK cs q)) := OwnAt.farInts (by rw [← hdl, ← ic_flat]; exact hO5.own)
  have hG5 := hG4.below hb5
  have hT5 := hT4.below hb5
  have hx5 := hx4.below hb5
  have hp5 := hp4.below hb5
  have hB5 := below_next hb24 hb5
  obtain ⟨gv, HGV⟩ : ∃ gv, Hid (gv = w2.heap.size) := ⟨_, rfl⟩
  obtain ⟨T, HT⟩ : ∃ T, Hid (T = w3.heap.size) := ⟨_, rfl⟩
  rw [← HGV.out] at hG5 hgl hlowA hlowP hg2 ⊢
  rw [← HT.out] at hT5 hTl hgl hg2 ⊢
  have hneA : 0 < q → ∀ x, A = some x → x.block ≠ gv ∧ x.block ≠ T := fun h0 x hA => by have := hlowA h0 x hA; omega
  have hneP : 0 < m → ∀ x, P = some x → x.block ≠ gv ∧ x.block ≠ T := fun h0 x hA => by have := hlowP h0 x hA; omega
  have hneO : 0 < q → ∀ x, O = some x → x.block ≠ gv ∧ x.block ≠ T := fun _ x hA => by have := hO6.far x hA; omega
  have hOi := hO6.ints
  have hG6 : Whole w5 gv 3 ((rowG q ((downK cs q).take 0) (giveAt cs ps 0)).map (Value.int .i64)) := by rw [List.take_zero, rowG_nil]; exact hG5
  have hT6 : Whole w5 T 49 (takenG (giveAt cs ps 0)) := by rw [giveAt_zero, takenG_none]; exact hT5
  have hgT : gv ≠ T := by omega
  have hgv2 : w2.heap.size ≤ gv := Nat.le_of_eq HGV.out.symm
  have hT2 : w2.heap.size ≤ T := by omega
  clear hq hdl hO5 hO6 hG3 hG4 hT4 hG5 hT5 hx2 hp2 hx4 hp4 hb3 hb4 hb24 hb5 hgl hTl hlowA hlowP hg2
  go_wp2
  go_loopw [8, 9, 10, 25, 34] (fun _ _ _ vk _ wr => ∃ k : Nat, k ≤ q ∧ vk = .int .i64 k ∧ Whole wr gv 3 ((rowG q ((downK cs q).take k) (giveAt cs ps k)).map (Value.int .i64)) ∧ Whole wr T 49 (takenG (giveAt cs ps k)) ∧ Fr2 gv T w5 wr ∧ Below w2.heap.size w2 wr) (fun _ _ _ k _ _ => q - (intOf k).toNat)
  case atStart => exact ⟨0, by omega, rfl, hG6, hT6, Fr2.refl _ _ _, hB5⟩
  case round =>
    obtain ⟨k, hkq, rfl, hG, hT, hf, hB⟩ := hrel
    clear hG6 hT6 hB5
    by_cases hlt : k < q
    · have hDl := downK_len (downK_is cs q)
      obtain ⟨d, hd⟩ : ∃ d, (downK cs q)[k]? = some d := ⟨_, List.getElem?_eq_getElem (by omega)⟩
      obtain ⟨hnew, hdq⟩ := down_new hd
      have hinv := giveAt_inv cs ps k
      rw [← HNN.out] at hinv
      have hGl : (giveAt cs ps k).length = q := by rw [hinv.len, HNN.out]
      have hd1 : gM (giveAt cs ps k) d = -1 := hinv.rest d (by rw [← HNN.out]; exact hdq) hnew
      have hnext := giveAt_next (cs := cs) (ps := ps) (k := k) (d := d) (by rw [← HNN.out]; exact hd)
      have htake : (downK cs q).take (k + 1) = (downK cs q).take k ++ [d] := by rw [List.take_add_one, hd]; rfl
      have HGL := Lib.hid hGl
      have HD1 := Lib.hid hd1
      have HNEXT := Lib.hid hnext
      have HTAKE := Lib.hid htake
      obtain ⟨z, bo, oo, HZ, rfl, hbo, cz⟩ := IntsAt.get (SlAt.fr2 hOi hf hneO) hlt
      obtain rfl : z = (d : Int) := by have := HZ.out; rw [toI_get hd] at this; injection this with this; exact this.symm
      have hcd : wr.cell? ⟨gv, d, none⟩ = some (.int .i64 0) := by rw [hG.cell d, List.getElem?_map, rowG_get hdq, if_neg hnew]; rfl
      have hfd := hG.free d
      have hG7 := hG.set_ d (.int .i64 (-1))
      rw [← List.map_set, rowG_turn hdq hd1, ← htake] at hG7
      have hT7 := hT.far (p := ⟨gv, d, none⟩) (fun e => hgT e.symm) (.int .i64 (-1))
      have hf7 := hf.set (p := ⟨gv, d, none⟩) (.inl rfl) (.int .i64 (-1))
      have hB7 := hB.setCell (p := ⟨gv, d, none⟩) hgv2 (.int .i64 (-1))
      have hkl : (k : Int) < (q : Int) := by omega
      have hdl : (d : Int) < (q : Int) := by omega
      have hd0 : (0 : Int) ≤ (d : Int) := by omega
      clear HZ hd hnew hinv hGl hd1 hnext htake hDl hG hT hf hB
      generalize giveAt cs ps k = G at HGL HD1 HNEXT hG7 hT7 ⊢
      go_wp2
      go_loopw [9, 10, 34] (fun _ _ vp wq => ∃ p : Nat, p ≤ m ∧ vp = .int .i64 p ∧ (∀ i, i < p → (adjC cs ps d i && !hasB G (i : Int)) = false) ∧ Whole wq gv 3 ((rowG q ((downK cs q).take (k + 1)) G).map (Value.int .i64)) ∧ Whole wq T 49 (takenG G) ∧ Fr2 gv T w5 wq ∧ Below w2.heap.size w2 wq) (fun _ _ p _ => m - (intOf p).toNat)
      case atStart => exact ⟨0, by omega, rfl, fun i h => by omega, hG7, hT7, hf7, hB7⟩
      case round =>
        obtain ⟨p, hpm, rfl, hno, hG8, hT8, hf8, hB8⟩ := hrel
        have HNO := Lib.hid hno
        clear hno hG7 hT7 hf7 hB7
        obtain ⟨w8, rfl⟩ : ∃ w8, w8 = wr := ⟨_, rfl⟩
        by_cases hltp : p < m
        · obtain ⟨y, bp, op, HY, rfl, hpl, p0, p1, p2⟩ := PlacesAt.get (SlAt.fr2 hp5 hf8 hneP) hltp
          obtain ⟨x, bx, ox, HX, rfl, hxl, c0, c1, c2, c3⟩ := CarsAt.get (SlAt.fr2 hx5 hf8 hneA) hdq
          have hpl' : (p : Int) < (m : Int) := by omega
          have hp0 : (0 : Int) ≤ (p : Int) := by omega
          have hp6 : (p : Int) < 6 := by omega
          have hp6n : p < 6 := by omega
          go_upto_region 12 with fail
          have hb9 : Below w8.heap.size w8 (w8.alloc (.cells #[.int .i64 y.f, .int .i64 y.t, .int .i64 y.r] 48)) := (Below.refl _ _).alloc (Nat.le_refl _) _
          have hN9 : Whole (w8.alloc (.cells #[.int .i64 y.f, .int .i64 y.t, .int .i64 y.r] 48)) w8.heap.size 48 [.int .i64 y.f, .int .i64 y.t, .int .i64 y.r] := Whole.new w8 _ _
          generalize w8.alloc (.cells #[.int .i64 y.f, .int .i64 y.t, .int .i64 y.r] 48) = w9 at hb9 hN9 ⊢
          obtain ⟨N, HN9⟩ : ∃ N, Hid (N = w8.heap.size) := ⟨_, rfl⟩
          rw [← HN9.out] at hN9 ⊢
          have hadj : adjC cs ps d p = fitP x y := by simp only [adjC, HX.out, fitAt_get HY]
          have HADJ := Lib.hid hadj
          have hpps : p < ps.length := (List.getElem?_eq_some_iff.1 HY.out).1
          have hG9 := hG8.below hb9
          have hT9 := hT8.below hb9
          have hf9 := hf8.below hb9
          have hB9 := hB8.trans (hb9.mono hB8.size)
          have e0 := (hb9.cell (p := ⟨bx, ox + d * 4, none⟩) hxl).trans c0
          have e1 := (hb9.cell (p := ⟨bx, ox + d * 4 + 1, none⟩) hxl).trans c1
          have e2 := (hb9.cell (p := ⟨bx, ox + d * 4 + 2, none⟩) hxl).trans c2
          have e3 := (hb9.cell (p := ⟨bx, ox + d * 4 + 3, none⟩) hxl).trans c3
          have n0 : w9.cell? ⟨N, 0, none⟩ = some (.int .i64 y.f) := hN9.cell 0
          have n1 : w9.cell? ⟨N, 1, none⟩ = some (.int .i64 y.t) := hN9.cell 1
          have n2 : w9.cell? ⟨N, 2, none⟩ = some (.int .i64 y.r) := hN9.cell 2
          have hxl9 : bx < w9.heap.size := Nat.lt_of_lt_of_le hxl hb9.size
          have hTl := hT9.lt
          have hNl := hN9.lt
          have tc0 : w9.cell? ⟨T, p, none⟩ = some (.bool (hasB G (p : Int))) := (hT9.cell p).trans (takenG_get hp6n)
          clear hadj p0 p1 p2 c0 c1 c2 c3 hG8 hT8 hf8 hB8 hb9 hxl hpl HX HN9 hN9
          cases hbt : hasB G (p : Int)
          · have tc : w9.cell? ⟨T, p, none⟩ = some (.bool false) := by rw [tc0, hbt]
            have HBT := Lib.hid hbt
            clear tc0 hbt
            cases hfit : fitP x y
            · have HFIT := Lib.hid hfit
              clear hfit
              refine wp_region_held_drew (S := (fun w' => w'.cell? ⟨T, p, none⟩ = some (.bool false) ∧ w'.cell? ⟨bx, ox + d * 4, none⟩ = some (.int .i64 x.f) ∧ w'.cell? ⟨bx, ox + d * 4 + 1, none⟩ = some (.int .i64 x.t) ∧ w'.cell? ⟨bx, ox + d * 4 + 2, none⟩ = some (.int .i64 x.r) ∧ w'.cell? ⟨bx, ox + d * 4 + 3, none⟩ = some (.int .i64 x.u) ∧ w'.cell? ⟨N, 0, none⟩ = some (.int .i64 y.f) ∧ w'.cell? ⟨N, 1, none⟩ = some (.int .i64 y.t) ∧ w'.cell? ⟨N, 2, none⟩ = some (.int .i64 y.r))) (by kernel_rfl) ?_ (fun hHeld => ?_)
              · (try dsimp only); first | exact ⟨tc, e0, e1, e2, e3, n0, n1, n2⟩ | exact k8
              refine wpAnyH_take (i := 0) (v := ?vq1_0) (by simp only [List.getElem?_toArray, List.getElem?_cons_zero]; rfl) (by kernel_rfl) (by kernel_rfl) (by kernel_rfl) (by exact fun _ _ _ h => h) (Or.inl ⟨by rfl, ?hq1_0⟩) hHeld ?rq1_0
              case hq1_0 => (intro w hSw; (try dsimp only at hSw); go_simp; (try with_reducible rfl))
              try simp only [put_laws]
              refine wpAnyH_take (i := 1) (v := ?vq1_1) (by simp only [List.getElem?_toArray, List.getElem?_cons_succ, List.getElem?_cons_zero]; rfl) (by kernel_rfl) (by kernel_rfl) (by kernel_rfl) (by exact fun _ _ _ h => h) (Or.inl ⟨by rfl, ?hq1_1⟩) hHeld ?rq1_1
              case hq1_1 => (intro w hSw; (try dsimp only at hSw); go_simp; (try with_reducible rfl))
              try simp only [put_laws]
              refine wpAnyH_take (i := 2) (v := ?vq1_2) (by simp only [List.getElem?_toArray, List.getElem?_cons_succ, List.getElem?_cons_zero]; rfl) (by kernel_rfl) (by kernel_rfl) (by kernel_rfl) (by exact fun _ _ _ h => h) (Or.inl ⟨by rfl, ?hq1_2⟩) hHeld ?rq1_2
              case hq1_2 => (intro w hSw; (try dsimp only at hSw); go_simp; (try with_reducible rfl))
              try simp only [put_laws]
              refine wpAnyH_take (i := 3) (v := ?vq1_3) (by simp only [List.getElem?_toArray, List.getElem?_cons_succ, List.getElem?_cons_zero]; rfl) (by kernel_rfl) (by kernel_rfl) (by kernel_rfl) (by exact fun _ _ _ h => h) (Or.inl ⟨by rfl, ?hq1_3⟩) hHeld ?rq1_3
              case hq1_3 => (intro w hSw; (try dsimp only at hSw); go_simp; (try with_reducible rfl))
              try simp only [put_laws]
              refine wpAnyH_take (i := 4) (v := ?vq1_4) (by simp only [List.getElem?_toArray, List.getElem?_cons_succ, List.getElem?_cons_zero]; rfl) (by kernel_rfl) (by kernel_rfl) (by kernel_rfl) (by exact fun _ _ _ h => h) (Or.inl ⟨by rfl, ?hq1_4⟩) hHeld ?rq1_4
              case hq1_4 => (intro w hSw; (try dsimp only at hSw); go_simp; (try with_reducible rfl))
              try simp only [put_laws]
              refine wpAnyH_take (i := 5) (v := ?vq1_5) (by simp only [List.getElem?_toArray, List.getElem?_cons_succ, List.getElem?_cons_zero]; rfl) (by kernel_rfl) (by kernel_rfl) (by kernel_rfl) (by exact fun _ _ _ h => h) (Or.inl ⟨by rfl, ?hq1_5⟩) hHeld ?rq1_5
              case hq1_5 => (intro w hSw; (try dsimp only at hSw); go_simp; (try with_reducible rfl))
              try simp only [put_laws]
              refine wpAnyH_take (i := 6) (v := ?vq1_6) (by simp only [List.getElem?_toArray, List.getElem?_cons_succ, List.getElem?_cons_zero]; rfl) (by kernel_rfl) (by kernel_rfl) (by kernel_rfl) (by exact fun _ _ _ h => h) (Or.inl ⟨by rfl, ?hq1_6⟩) hHeld ?rq1_6
              case hq1_6 => (intro w hSw; (try dsimp only at hSw); go_simp; (try with_reducible rfl))
              try simp only [put_laws]
              refine wpAnyH_take (i := 7) (v := ?vq1_7) (by simp only [List.getElem?_toArray, List.getElem?_cons_succ, List.getElem?_cons_zero]; rfl) (by kernel_rfl) (by kernel_rfl) (by kernel_rfl) (by exact fun _ _ _ h => h) (Or.inl ⟨by rfl, ?hq1_7⟩) hHeld ?rq1_7
              case hq1_7 => (intro w hSw; (try dsimp only at hSw); go_simp; (try with_reducible rfl))
              try simp only [put_laws]
              refine wpAnyH_take (i := 8) (v := ?vq1_8) (by simp only [List.getElem?_toArray, List.getElem?_cons_succ, List.getElem?_cons_zero]; rfl) (by kernel_rfl) (by kernel_rfl) (by kernel_rfl) (by exact fun _ _ _ h => h) (Or.inl ⟨by rfl, ?hq1_8⟩) hHeld ?rq1_8
              case hq1_8 => (intro w hSw; (try dsimp only at hSw); go_simp; (try with_reducible rfl))
              try simp only [put_laws]
              refine wpAnyH_take (i := 9) (v := ?vq1_9) (by simp only [List.getElem?_toArray, List.getElem?_cons_succ, List.getElem?_cons_zero]; rfl) (by kernel_rfl) (by kernel_rfl) (by kernel_rfl) (by exact fun _ _ _ h => h) (Or.inl ⟨by rfl, ?hq1_9⟩) hHeld ?rq1_9
              case hq1_9 => (intro w hSw; (try dsimp only at hSw); go_simp; (try with_reducible rfl))
              try simp only [put_laws]
              refine wpAnyH_ready (rs := [10]) (by kernel_rfl) (by simp) ?_
              refine AllReadyH.cons (by simp only [List.getElem?_toArray, List.getElem?_cons_succ, List.getElem?_cons_zero]; rfl) (fun K hK => ?_) AllReadyH.nil
              go_simp
              refine (fits_no x y _ HFIT.out).mono ?_; rintro e w10 ⟨rfl, hb10⟩; have k8 := (And.intro ((hb10.cell (p := ⟨T, p, none⟩) hTl).trans tc) (And.intro ((hb10.cell (p := ⟨bx, ox + d * 4, none⟩) hxl9).trans e0) (And.intro ((hb10.cell (p := ⟨bx, ox + d * 4 + 1, none⟩) hxl9).trans e1) (And.intro ((hb10.cell (p := ⟨bx, ox + d * 4 + 2, none⟩) hxl9).trans e2) (And.intro ((hb10.cell (p := ⟨bx, ox + d * 4 + 3, none⟩) hxl9).trans e3) (And.intro ((hb10.cell (p := ⟨N, 0, none⟩) hNl).trans n0) (And.intro ((hb10.cell (p := ⟨N, 1, none⟩) hNl).trans n1) ((hb10.cell (p := ⟨N, 2, none⟩) hNl).trans n2))))))))
              refine hK.out _ _ ?_ (fun hHeld => ?_)
              · (try dsimp only); first | exact ⟨tc, e0, e1, e2, e3, n0, n1, n2⟩ | exact k8
              clear hK K
              try simp only [put_laws]
              refine wpAnyH_take (i := 11) (v := ?vq1_11) (by simp only [List.getElem?_toArray, List.getElem?_cons_succ, List.getElem?_cons_zero]; rfl) (by kernel_rfl) (by kernel_rfl) (by kernel_rfl) (by exact fun _ _ _ h => h) (Or.inl ⟨by rfl, ?hq1_11⟩) hHeld ?rq1_11
              case hq1_11 => (intro w hSw; (try dsimp only at hSw); go_simp; (try with_reducible rfl))
              try simp only [put_laws]
              refine wpAnyH_done (by kernel_rfl) ?_ _
              have hbn : Below w9.heap.size w9 w10 := ((Below.refl w9.heap.size w9).drew).trans (hb10.mono (Nat.le_refl _))
              have hG10 := hG9.below hbn
              have hT10 := hT9.below hbn
              have hf10 := hf9.below hbn
              have hB10 := hB9.trans (hbn.mono hB9.size)
              clear hHeld k8 tc e0 e1 e2 e3 n0 n1 n2 hG9 hT9 hf9 hB9 hb10 hbn hxl9 hTl hNl
              go_wp2
              go_roundw
              case rel =>
                refine ⟨p + 1, by omega, by go_num, fun i hi => ?_, hG10, hT10, hf10, hB10⟩
                by_cases he : i = p
                · subst he; rw [HADJ.out, HFIT.out]; rfl
                · exact HNO.out i (by omega)
              case measure => simp [intOf]; omega
            · have HFIT := Lib.hid hfit
              clear hfit
              refine wp_region_held_drew (S := (fun w' => w'.cell? ⟨T, p, none⟩ = some (.bool false) ∧ w'.cell? ⟨bx, ox + d * 4, none⟩ = some (.int .i64 x.f) ∧ w'.cell? ⟨bx, ox + d * 4 + 1, none⟩ = some (.int .i64 x.t) ∧ w'.cell? ⟨bx, ox + d * 4 + 2, none⟩ = some (.int .i64 x.r) ∧ w'.cell? ⟨bx, ox + d * 4 + 3, none⟩ = some (.int .i64 x.u) ∧ w'.cell? ⟨N, 0, none⟩ = some (.int .i64 y.f) ∧ w'.cell? ⟨N, 1, none⟩ = some (.int .i64 y.t) ∧ w'.cell? ⟨N, 2, none⟩ = some (.int .i64 y.r))) (by kernel_rfl) ?_ (fun hHeld => ?_)
              · (try dsimp only); first | exact ⟨tc, e0, e1, e2, e3, n0, n1, n2⟩ | exact k8
              refine wpAnyH_take (i := 0) (v := ?vq2_0) (by simp only [List.getElem?_toArray, List.getElem?_cons_zero]; rfl) (by kernel_rfl) (by kernel_rfl) (by kernel_rfl) (by exact fun _ _ _ h => h) (Or.inl ⟨by rfl, ?hq2_0⟩) hHeld ?rq2_0
              case hq2_0 => (intro w hSw; (try dsimp only at hSw); go_simp; (try with_reducible rfl))
              try simp only [put_laws]
              refine wpAnyH_take (i := 1) (v := ?vq2_1) (by simp only [List.getElem?_toArray, List.getElem?_cons_succ, List.getElem?_cons_zero]; rfl) (by kernel_rfl) (by kernel_rfl) (by kernel_rfl) (by exact fun _ _ _ h => h) (Or.inl ⟨by rfl, ?hq2_1⟩) hHeld ?rq2_1
              case hq2_1 => (intro w hSw; (try dsimp only at hSw); go_simp; (try with_reducible rfl))
              try simp only [put_laws]
              refine wpAnyH_take (i := 2) (v := ?vq2_2) (by simp only [List.getElem?_toArray, List.getElem?_cons_succ, List.getElem?_cons_zero]; rfl) (by kernel_rfl) (by kernel_rfl) (by kernel_rfl) (by exact fun _ _ _ h => h) (Or.inl ⟨by rfl, ?hq2_2⟩) hHeld ?rq2_2
              case hq2_2 => (intro w hSw; (try dsimp only at hSw); go_simp; (try with_reducible rfl))
              try simp only [put_laws]
              refine wpAnyH_take (i := 3) (v := ?vq2_3) (by simp only [List.getElem?_toArray, List.getElem?_cons_succ, List.getElem?_cons_zero]; rfl) (by kernel_rfl) (by kernel_rfl) (by kernel_rfl) (by exact fun _ _ _ h => h) (Or.inl ⟨by rfl, ?hq2_3⟩) hHeld ?rq2_3
              case hq2_3 => (intro w hSw; (try dsimp only at hSw); go_simp; (try with_reducible rfl))
              try simp only [put_laws]
              refine wpAnyH_take (i := 4) (v := ?vq2_4) (by simp only [List.getElem?_toArray, List.getElem?_cons_succ, List.getElem?_cons_zero]; rfl) (by kernel_rfl) (by kernel_rfl) (by kernel_rfl) (by exact fun _ _ _ h => h) (Or.inl ⟨by rfl, ?hq2_4⟩) hHeld ?rq2_4
              case hq2_4 => (intro w hSw; (try dsimp only at hSw); go_simp; (try with_reducible rfl))
              try simp only [put_laws]
              refine wpAnyH_take (i := 5) (v := ?vq2_5) (by simp only [List.getElem?_toArray, List.getElem?_cons_succ, List.getElem?_cons_zero]; rfl) (by kernel_rfl) (by kernel_rfl) (by kernel_rfl) (by exact fun _ _ _ h => h) (Or.inl ⟨by rfl, ?hq2_5⟩) hHeld ?rq2_5
              case hq2_5 => (intro w hSw; (try dsimp only at hSw); go_simp; (try with_reducible rfl))
              try simp only [put_laws]
              refine wpAnyH_take (i := 6) (v := ?vq2_6) (by simp only [List.getElem?_toArray, List.getElem?_cons_succ, List.getElem?_cons_zero]; rfl) (by kernel_rfl) (by kernel_rfl) (by kernel_rfl) (by exact fun _ _ _ h => h) (Or.inl ⟨by rfl, ?hq2_6⟩) hHeld ?rq2_6
              case hq2_6 => (intro w hSw; (try dsimp only at hSw); go_simp; (try with_reducible rfl))
              try simp only [put_laws]
              refine wpAnyH_take (i := 7) (v := ?vq2_7) (by simp only [List.getElem?_toArray, List.getElem?_cons_succ, List.getElem?_cons_zero]; rfl) (by kernel_rfl) (by kernel_rfl) (by kernel_rfl) (by exact fun _ _ _ h => h) (Or.inl ⟨by rfl, ?hq2_7⟩) hHeld ?rq2_7
              case hq2_7 => (intro w hSw; (try dsimp only at hSw); go_simp; (try with_reducible rfl))
              try simp only [put_laws]
              refine wpAnyH_take (i := 8) (v := ?vq2_8) (by simp only [List.getElem?_toArray, List.getElem?_cons_succ, List.getElem?_cons_zero]; rfl) (by kernel_rfl) (by kernel_rfl) (by kernel_rfl) (by exact fun _ _ _ h => h) (Or.inl ⟨by rfl, ?hq2_8⟩) hHeld ?rq2_8
              case hq2_8 => (intro w hSw; (try dsimp only at hSw); go_simp; (try with_reducible rfl))
              try simp only [put_laws]
              refine wpAnyH_take (i := 9) (v := ?vq2_9) (by simp only [List.getElem?_toArray, List.getElem?_cons_succ, List.getElem?_cons_zero]; rfl) (by kernel_rfl) (by kernel_rfl) (by kernel_rfl) (by exact fun _ _ _ h => h) (Or.inl ⟨by rfl, ?hq2_9⟩) hHeld ?rq2_9
              case hq2_9 => (intro w hSw; (try dsimp only at hSw); go_simp; (try with_reducible rfl))
              try simp only [put_laws]
              refine wpAnyH_ready (rs := [10]) (by kernel_rfl) (by simp) ?_
              refine AllReadyH.cons (by simp only [List.getElem?_toArray, List.getElem?_cons_succ, List.getElem?_cons_zero]; rfl) (fun K hK => ?_) AllReadyH.nil
              go_simp
              refine (fits_yes x y _ HFIT.out).mono ?_; rintro e w10 ⟨rfl, hb10⟩; have k8 := (And.intro ((hb10.cell (p := ⟨T, p, none⟩) hTl).trans tc) (And.intro ((hb10.cell (p := ⟨bx, ox + d * 4, none⟩) hxl9).trans e0) (And.intro ((hb10.cell (p := ⟨bx, ox + d * 4 + 1, none⟩) hxl9).trans e1) (And.intro ((hb10.cell (p := ⟨bx, ox + d * 4 + 2, none⟩) hxl9).trans e2) (And.intro ((hb10.cell (p := ⟨bx, ox + d * 4 + 3, none⟩) hxl9).trans e3) (And.intro ((hb10.cell (p := ⟨N, 0, none⟩) hNl).trans n0) (And.intro ((hb10.cell (p := ⟨N, 1, none⟩) hNl).trans n1) ((hb10.cell (p := ⟨N, 2, none⟩) hNl).trans n2))))))))
              refine hK.out _ _ ?_ (fun hHeld => ?_)
              · (try dsimp only); first | exact ⟨tc, e0, e1, e2, e3, n0, n1, n2⟩ | exact k8
              clear hK K
              try simp only [put_laws]
              refine wpAnyH_take (i := 11) (v := ?vq2_11) (by simp only [List.getElem?_toArray, List.getElem?_cons_succ, List.getElem?_cons_zero]; rfl) (by kernel_rfl) (by kernel_rfl) (by kernel_rfl) (by exact fun _ _ _ h => h) (Or.inl ⟨by rfl, ?hq2_11⟩) hHeld ?rq2_11
              case hq2_11 => (intro w hSw; (try dsimp only at hSw); go_simp; (try with_reducible rfl))
              try simp only [put_laws]
              refine wpAnyH_done (by kernel_rfl) ?_ _
              have hbn : Below w9.heap.size w9 w10 := ((Below.refl w9.heap.size w9).drew).trans (hb10.mono (Nat.le_refl _))
              have hG10 := hG9.below hbn
              have hT10 := hT9.below hbn
              have hf10 := hf9.below hbn
              have hB10 := hB9.trans (hbn.mono hB9.size)
              clear hHeld k8 tc e0 e1 e2 e3 n0 n1 n2 hG9 hT9 hf9 hB9 hb10 hbn hxl9 hTl hNl
              have hcd : w10.cell? ⟨gv, d, none⟩ = some (.int .i64 (if d ∈ (downK cs q).take (k + 1) then gM G d else 0)) := by rw [hG10.cell d, List.getElem?_map, rowG_get hdq]; rfl
              have hfd := hG10.free d
              have tcd : w10.cell? ⟨T, p, none⟩ = some (.bool (hasB G (p : Int))) := (hT10.cell p).trans (takenG_get hp6n)
              have hfp := hT10.free p
              have hG11 := (hG10.set_ d (.int .i64 (p : Int))).far (p := ⟨T, p, none⟩) hgT (.bool true)
              have hT11 := (hT10.far (p := ⟨gv, d, none⟩) (fun e => hgT e.symm) (.int .i64 (p : Int))).set_ p (.bool true)
              have hf11 := (hf10.set (p := ⟨gv, d, none⟩) (.inl rfl) (.int .i64 (p : Int))).set (p := ⟨T, p, none⟩) (.inr rfl) (.bool true)
              have hB11 := (hB10.setCell (p := ⟨gv, d, none⟩) hgv2 (.int .i64 (p : Int))).setCell (p := ⟨T, p, none⟩) hT2 (.bool true)
              rw [← List.map_set, rowG_place hdq HGL.out (by rw [HTAKE.out]; simp)] at hG11
              rw [takenG_place hp6n (by rw [HGL.out]; exact hdq) HD1.out] at hT11
              have hstep : giveAt cs ps (k + 1) = G.set d (p : Int) := by
                rw [HNEXT.out]
                exact stepD_some (firstP_at hpps (by rw [HADJ.out, HFIT.out, HBT.out]; rfl) HNO.out)
              have hTcell := (Below.refl 0 w10)
              have HST := Lib.hid hstep
              have tcd2 : (w10.setCell ⟨gv, d, none⟩ (.int .i64 (p : Int))).cell? ⟨T, p, none⟩ = some (.bool (hasB G (p : Int))) := ((hT10.far (p := ⟨gv, d, none⟩) (fun e => hgT e.symm) (.int .i64 (p : Int))).cell p).trans (takenG_get hp6n)
              have hfp2 := (hT10.far (p := ⟨gv, d, none⟩) (fun e => hgT e.symm) (.int .i64 (p : Int))).free p
              clear hstep hTcell hG10 hT10 hf10 hB10
              go_wp2
              go_roundw
              case rel => exact ⟨k + 1, by omega, by go_num, by rw [HST.out]; exact hG11, by rw [HST.out]; exact hT11, hf11, hB11⟩
              case measure => simp [intOf]; omega
          · have tc : w9.cell? ⟨T, p, none⟩ = some (.bool true) := by rw [tc0, hbt]
            have HBT := Lib.hid hbt
            clear tc0 hbt
            refine wp_region_held_drew (S := (fun w' => w'.cell? ⟨T, p, none⟩ = some (.bool true) ∧ w'.cell? ⟨bx, ox + d * 4, none⟩ = some (.int .i64 x.f) ∧ w'.cell? ⟨bx, ox + d * 4 + 1, none⟩ = some (.int .i64 x.t) ∧ w'.cell? ⟨bx, ox + d * 4 + 2, none⟩ = some (.int .i64 x.r) ∧ w'.cell? ⟨bx, ox + d * 4 + 3, none⟩ = some (.int .i64 x.u) ∧ w'.cell? ⟨N, 0, none⟩ = some (.int .i64 y.f) ∧ w'.cell? ⟨N, 1, none⟩ = some (.int .i64 y.t) ∧ w'.cell? ⟨N, 2, none⟩ = some (.int .i64 y.r))) (by kernel_rfl) ?_ (fun hHeld => ?_)
            · (try dsimp only); first | exact ⟨tc, e0, e1, e2, e3, n0, n1, n2⟩ | exact k8
            refine wpAnyH_take (i := 0) (v := ?vq3_0) (by simp only [List.getElem?_toArray, List.getElem?_cons_zero]; rfl) (by kernel_rfl) (by kernel_rfl) (by kernel_rfl) (by exact fun _ _ _ h => h) (Or.inl ⟨by rfl, ?hq3_0⟩) hHeld ?rq3_0
            case hq3_0 => (intro w hSw; (try dsimp only at hSw); go_simp; (try with_reducible rfl))
            try simp only [put_laws]
            refine wpAnyH_take (i := 1) (v := ?vq3_1) (by simp only [List.getElem?_toArray, List.getElem?_cons_succ, List.getElem?_cons_zero]; rfl) (by kernel_rfl) (by kernel_rfl) (by kernel_rfl) (by exact fun _ _ _ h => h) (Or.inl ⟨by rfl, ?hq3_1⟩) hHeld ?rq3_1
            case hq3_1 => (intro w hSw; (try dsimp only at hSw); go_simp; (try with_reducible rfl))
            try simp only [put_laws]
            refine wpAnyH_take (i := 2) (v := ?vq3_2) (by simp only [List.getElem?_toArray, List.getElem?_cons_succ, List.getElem?_cons_zero]; rfl) (by kernel_rfl) (by kernel_rfl) (by kernel_rfl) (by exact fun _ _ _ h => h) (Or.inl ⟨by rfl, ?hq3_2⟩) hHeld ?rq3_2
            case hq3_2 => (intro w hSw; (try dsimp only at hSw); go_simp; (try with_reducible rfl))
            try simp only [put_laws]
            refine wpAnyH_take (i := 3) (v := ?vq3_3) (by simp only [List.getElem?_toArray, List.getElem?_cons_succ, List.getElem?_cons_zero]; rfl) (by kernel_rfl) (by kernel_rfl) (by kernel_rfl) (by exact fun _ _ _ h => h) (Or.inl ⟨by rfl, ?hq3_3⟩) hHeld ?rq3_3
            case hq3_3 => (intro w hSw; (try dsimp only at hSw); go_simp; (try with_reducible rfl))
            try simp only [put_laws]
            refine wpAnyH_take (i := 4) (v := ?vq3_4) (by simp only [List.getElem?_toArray, List.getElem?_cons_succ, List.getElem?_cons_zero]; rfl) (by kernel_rfl) (by kernel_rfl) (by kernel_rfl) (by exact fun _ _ _ h => h) (Or.inl ⟨by rfl, ?hq3_4⟩) hHeld ?rq3_4
            case hq3_4 => (intro w hSw; (try dsimp only at hSw); go_simp; (try with_reducible rfl))
            try simp only [put_laws]
            refine wpAnyH_take (i := 5) (v := undef) (by simp only [List.getElem?_toArray, List.getElem?_cons_succ, List.getElem?_cons_zero]; rfl) (by kernel_rfl) (by kernel_rfl) (by kernel_rfl) (by exact fun _ _ _ h => h) (Or.inr ⟨by rfl, rfl⟩) hHeld ?_
            try simp only [put_laws]
            refine wpAnyH_take (i := 6) (v := undef) (by simp only [List.getElem?_toArray, List.getElem?_cons_succ, List.getElem?_cons_zero]; rfl) (by kernel_rfl) (by kernel_rfl) (by kernel_rfl) (by exact fun _ _ _ h => h) (Or.inr ⟨by rfl, rfl⟩) hHeld ?_
            try simp only [put_laws]
            refine wpAnyH_take (i := 7) (v := undef) (by simp only [List.getElem?_toArray, List.getElem?_cons_succ, List.getElem?_cons_zero]; rfl) (by kernel_rfl) (by kernel_rfl) (by kernel_rfl) (by exact fun _ _ _ h => h) (Or.inr ⟨by rfl, rfl⟩) hHeld ?_
            try simp only [put_laws]
            refine wpAnyH_take (i := 8) (v := undef) (by simp only [List.getElem?_toArray, List.getElem?_cons_succ, List.getElem?_cons_zero]; rfl) (by kernel_rfl) (by kernel_rfl) (by kernel_rfl) (by exact fun _ _ _ h => h) (Or.inr ⟨by rfl, rfl⟩) hHeld ?_
            try simp only [put_laws]
            refine wpAnyH_take (i := 9) (v := undef) (by simp only [List.getElem?_toArray, List.getElem?_cons_succ, List.getElem?_cons_zero]; rfl) (by kernel_rfl) (by kernel_rfl) (by kernel_rfl) (by exact fun _ _ _ h => h) (Or.inr ⟨by rfl, rfl⟩) hHeld ?_
            try simp only [put_laws]
            refine wpAnyH_take (i := 10) (v := undef) (by simp only [List.getElem?_toArray, List.getElem?_cons_succ, List.getElem?_cons_zero]; rfl) (by kernel_rfl) (by kernel_rfl) (by kernel_rfl) (by exact fun _ _ _ h => h) (Or.inr ⟨by rfl, rfl⟩) hHeld ?_
            try simp only [put_laws]
            refine wpAnyH_take (i := 11) (v := ?vq3_11) (by simp only [List.getElem?_toArray, List.getElem?_cons_succ, List.getElem?_cons_zero]; rfl) (by kernel_rfl) (by kernel_rfl) (by kernel_rfl) (by exact fun _ _ _ h => h) (Or.inl ⟨by rfl, ?hq3_11⟩) hHeld ?rq3_11
            case hq3_11 => (intro w hSw; (try dsimp only at hSw); go_simp; (try with_reducible rfl))
            try simp only [put_laws]
            refine wpAnyH_done (by kernel_rfl) ?_ _
            have hbn : Below w9.heap.size w9 w9.drew := (Below.refl w9.heap.size w9).drew
            have hG10 := hG9.below hbn
            have hT10 := hT9.below hbn
            have hf10 := hf9.below hbn
            have hB10 := hB9.trans (hbn.mono hB9.size)
            clear hHeld tc e0 e1 e2 e3 n0 n1 n2 hG9 hT9 hf9 hB9 hbn hxl9 hTl hNl
            go_wp2
            go_roundw
            case rel =>
              refine ⟨p + 1, by omega, by go_num, fun i hi => ?_, hG10, hT10, hf10, hB10⟩
              by_cases he : i = p
              · subst he; rw [HBT.out, Bool.not_true, Bool.and_false]
              · exact HNO.out i (by omega)
            case measure => simp [intOf]; omega
        · obtain rfl : p = m := by omega
          have hstep : giveAt cs ps (k + 1) = G := by
            rw [HNEXT.out]
            exact stepD_none (firstP_no (by rw [HM.out]; exact HNO.out))
          have HST := Lib.hid hstep
          clear hstep
          go_wp2
          go_roundw
          case rel => exact ⟨k + 1, by omega, by go_num, by rw [HST.out]; exact hG8, by rw [HST.out]; exact hT8, hf8, hB8⟩
          case measure => simp [intOf]; omega
    · obtain rfl : k = q := by omega
      go_wp2
      go_ret
      have hall := giveAt_all cs ps
      rw [← HNN.out] at hall
      have hgl : (giveAt cs ps k).length = k := by rw [(giveAt_inv cs ps k).len, HNN.out]
      rw [List.take_of_length_le (by rw [downK_len (downK_is cs k)]; exact Nat.le_refl _), rowG_all hgl (fun c hc => ((downK_is cs k).all c).2 hc)] at hG
      have hres : giveDL cs ps = giveAt cs ps k := by rw [giveDL_yes HC.out HP.out, hall, ← HNN.out]
      rw [hres]
      exact ownR_mk rfl (Whole.own (by rw [ic_flat]; exact hG) (by simp [ic, hgl]) (by intro r hr; simp [ic] at hr; obtain ⟨x, _, rfl⟩ := hr; rfl) (Nat.le_trans hb0.size hgv2) (by unfold maxLen; omega)) (hb0.trans (hB.mono hb0.size))
end Go.Proofs.YtmmaeninlhbaaaaDoor
