/-
  The hall with many cars and the car that the reference draws.
-/
import Derived.Test.YtdebjcempkgeaaaGreatDoorDrHall
import Derived.Test.YtdebjcempkgeaaaGreatDoorSCars
namespace Go.Proofs.YtdebjcempkgeaaaGreatDoor
open Go.ChangeShapes Go.WideShapes Go.ChangeAt Go.RowKit

/-- The call answers some number; the reader has gone on. -/
def DrawI (w0 w : World) (R : Nat) (A : Option Addr) (n c : Nat) (bs : List Int) (K : Nat) (e : Ending) (w' : World) : Prop :=
  ∃ z : Int, e = .returned (.int .i64 z) ∧ Rd w0 w' R A n c bs K ∧ Fr1 R w w'
set_option maxRecDepth 100000 in
set_option maxHeartbeats 4000000 in
theorem l20Car_any (w0 w : World) (R : Nat) (A : Option Addr) (n c : Nat) (bs : List Int) (J : Nat) (wd dp : Int) (GA : Option Addr) (m d : Nat) (g : List Int) (h : Rd w0 w R A n c bs J) (hJ : J ≤ 900000) (hm : m ≤ 100) (hmd : m ≤ d) (hg : IntsAt w GA m g) :
    Calls Tryz.prog 32 #[.pointer (some ⟨R, 0, none⟩), .agg #[.int .i64 wd, .int .i64 dp, .slice GA m d]] w (DrawI w0 w R A n c bs (J + 3)) := by
  have hRl := h.lt
  have hB1 : Below w.heap.size w (w.alloc (.cells #[.int .i64 wd, .int .i64 dp, .slice GA m d] 25)) := (Below.refl _ _).alloc (Nat.le_refl _) _
  have hR1 := h.below hB1
  have hF1 : Fr1 R w (w.alloc (.cells #[.int .i64 wd, .int .i64 dp, .slice GA m d] 25)) := (Fr1.refl R w).below hB1
  have hG1 := hg.below hB1
  have hs1 := hB1.size
  clear h hg hB1
  go_enter Tryz.func32, Tryz.ntmps32
  go_wp2_with fail
  generalize w.alloc (.cells #[.int .i64 wd, .int .i64 dp, .slice GA m d] 25) = w1 at *
  refine (specHallCars_any wd dp GA m d g w1 hm hmd hG1).mono ?_; rintro e w2 ⟨l, hl, G, lc, ys, rfl, hO, hb2⟩
  have hR2 := hR1.below hb2
  have hF2 := hF1.below hb2
  have hRs : R < w1.heap.size := by omega
  clear hR1 hF1 hG1 hb2 hs1
  by_cases hl0 : l = 0
  · subst hl0
    go_wp2_with fail
    refine (pick_any w0 w2 R A n c bs J 30 hR2 (by omega)).mono ?_; rintro e w3 ⟨a, rfl, ha0, ha1, -, hR3, hf3⟩
    replace ha1 := ha1 (by omega)
    go_wp2_with fail
    refine (pick_any w0 w3 R A n c bs _ 20 hR3 (by omega)).mono ?_; rintro e w4 ⟨b, rfl, hb0, hb1, -, hR4, hf4⟩
    replace hb1 := hb1 (by omega)
    have hR5 := hR4.more (K' := J + 3) (by omega)
    have hF5 := (hF2.trans hf3).trans hf4
    clear hR3 hR4 hR2 hF2 hf3 hf4
    go_wp2
    go_ret
    exact ⟨_, rfl, hR5, hF5⟩
  · have hl1 : 0 < l := by omega
    go_wp2_with fail
    refine (pick_any w0 w2 R A n c bs J 5 hR2 (by omega)).mono ?_; rintro e w3 ⟨a, rfl, ha0, ha1, -, hR3, hf3⟩
    replace ha1 := ha1 (by omega)
    have hF3 := hF2.trans hf3
    have hO3 := ownsRow_fr1 hO hf3 hRs
    clear hR2 hF2 hf3 hO
    by_cases ha : 0 < a
    · have hd : decide (0 < a) = true := by simpa using ha
      go_wp2_with fail
      refine (pick_any w0 w3 R A n c bs _ l hR3 (by omega)).mono ?_; rintro e w4 ⟨b, rfl, hb0, hb1, -, hR4, hf4⟩
      replace hb1 := hb1 (by omega)
      have hI := (ints_own (ownsRow_fr1 hO3 hf4 hRs)).1
      obtain ⟨b, rfl⟩ : ∃ b' : Nat, b = b' := ⟨b.toNat, by omega⟩
      obtain ⟨x, b', off, HX, hA, hb', hc⟩ := hI.get (k := b) (by omega)
      injection hA with hA; injection hA with e1 e2; subst e1; subst e2
      simp only [Nat.zero_add] at hc
      have hR5 := hR4.more (K' := J + 3) (by omega)
      have hF5 := hF3.trans hf4
      clear hR3 hR4 hF3 hf4 hO3 hI
      go_wp2
      go_ret
      exact ⟨_, rfl, hR5, hF5⟩
    · have hd : decide (0 < a) = false := by simpa using ha
      obtain rfl : a = 0 := by omega
      clear ha
      go_wp2_with fail
      refine (pick_any w0 w3 R A n c bs _ 30 hR3 (by omega)).mono ?_; rintro e w4 ⟨a, rfl, ha0, ha1, -, hR4, hf4⟩
      replace ha1 := ha1 (by omega)
      go_wp2_with fail
      refine (pick_any w0 w4 R A n c bs _ 20 hR4 (by omega)).mono ?_; rintro e w5 ⟨b, rfl, hb0, hb1, -, hR5, hf5⟩
      replace hb1 := hb1 (by omega)
      have hR6 := hR5.more (K' := J + 3) (by omega)
      have hF6 := (hF3.trans hf4).trans hf5
      clear hR3 hR4 hR5 hF3 hf4 hf5 hO3
      go_wp2
      go_ret
      exact ⟨_, rfl, hR6, hF6⟩
/-- The call answers some hall, whose cells it has made itself, and some number; the reader has gone on. -/
def DrawC (w0 w : World) (R : Nat) (A : Option Addr) (n c : Nat) (bs : List Int) (K : Nat) (e : Ending) (w' : World) : Prop :=
  ∃ (wd dp : Int) (G m d : Nat) (g : List Int) (z : Int), e = .returned (.tuple #[.agg #[.int .i64 wd, .int .i64 dp, .slice (some ⟨G, 0, none⟩) m d], .int .i64 z]) ∧ w'.ownsRow w.heap.size 3 1 (.slice (some ⟨G, 0, none⟩) m d) m (g.map (Value.int .i64)) ∧ 4 ≤ m ∧ m ≤ 13 ∧ Rd w0 w' R A n c bs K ∧ Fr1 R w w'
theorem DH.finC {w0 w wr : World} {R : Nat} {A : Option Addr} {n c : Nat} {bs : List Int} {K K' Q M : Nat} {wd dp : Int} {G m d : Nat} {g : List Int} (h : DH w0 w wr R A n c bs K Q M wd dp G m d g) (h4 : 4 ≤ m) (h13 : m ≤ 13) (hk : K ≤ K') (z : Int) :
    DrawC w0 w R A n c bs K' (.returned (.tuple #[.agg #[.int .i64 wd, .int .i64 dp, .slice (some ⟨G, 0, none⟩) m d], .int .i64 z])) (((wr.setCell ⟨Q, 0, none⟩ (.int .i64 wd)).setCell ⟨Q, 1, none⟩ (.int .i64 dp)).setCell ⟨Q, 2, none⟩ (.slice (some ⟨G, 0, none⟩) m d)) := by
  obtain ⟨-, wd', dp', G', m', d', g', e, h1, h2, h3, h4, h5⟩ := h.fin h4 h13 hk
  injection e with e; injection e with e
  have e := congrArg Array.toList e
  simp only [List.cons.injEq, and_true] at e
  obtain ⟨e1, e2, e3⟩ := e
  injection e1 with _ e1; injection e2 with _ e2; injection e3 with e3 e4 e5; injection e3 with e3; injection e3 with e3
  subst e1; subst e2; subst e3; subst e4; subst e5
  exact ⟨wd, dp, G, m, d, g', z, rfl, h1, h2, h3, h4, h5⟩

set_option maxRecDepth 100000 in
set_option maxHeartbeats 8000000 in
theorem l20Crowd_any (w0 w : World) (R : Nat) (A : Option Addr) (n c : Nat) (bs : List Int) (J : Nat) (q : Int) (h : Rd w0 w R A n c bs J) (hJ : J ≤ 700000) (hq : 0 ≤ q) (hq2 : q ≤ 1000) :
    Calls Tryz.prog 15 #[.pointer (some ⟨R, 0, none⟩), .int .i64 q] w (DrawC w0 w R A n c bs (J + 200)) := by
  have hRl := h.lt
  have hbA : Below w.heap.size w (w.alloc (.cells #[.int .i64 0, .int .i64 0, .slice none 0 0] 25)) := (Below.refl _ _).alloc (Nat.le_refl _) _
  have hR1 := h.below hbA
  have hQ1 : Whole (w.alloc (.cells #[.int .i64 0, .int .i64 0, .slice none 0 0] 25)) w.heap.size 25 [.int .i64 0, .int .i64 0, .slice none 0 0] := Whole.new w _ _
  have hF1 : Fr1 R w (w.alloc (.cells #[.int .i64 0, .int .i64 0, .slice none 0 0] 25)) := (Fr1.refl R w).below hbA
  obtain ⟨Q, HQ⟩ : ∃ Q, Hid (Q = w.heap.size) := ⟨_, rfl⟩
  have hwQ : w.heap.size ≤ Q := Nat.le_of_eq HQ.out.symm
  clear h hbA
  go_enter Tryz.func15, Tryz.ntmps15
  go_wp2_with fail
  rw [← HQ.out] at hQ1 ⊢
  generalize w.alloc (.cells #[.int .i64 0, .int .i64 0, .slice none 0 0] 25) = w1 at *
  refine (l20Hall_any w0 w1 R A n c bs J q hR1 (by omega) hq hq2).mono ?_; rintro e w2 ⟨wd, dp, G, m, d, g, rfl, hO2, hm4, hm13, hR2, hf2⟩
  have hs1 := hF1.size
  have hQl := hQ1.lt
  have hG2 := hO2.lt G rfl
  have hb2 : Below w2.heap.size w2 (w2.alloc (.cells #[.int .i64 wd, .int .i64 dp, .slice (some ⟨G, 0, none⟩) m d] 25)) := (Below.refl _ _).alloc (Nat.le_refl _) _
  have HD0 : DH w0 w (w2.alloc (.cells #[.int .i64 wd, .int .i64 dp, .slice (some ⟨G, 0, none⟩) m d] 25)) R A n c bs (J + 100) Q w2.heap.size wd dp G m d g :=
    ⟨hR2.below hb2, (hF1.trans hf2).below hb2, (hQ1.fr1 hf2 (by omega)).below hb2, Whole.new w2 25 [.int .i64 wd, .int .i64 dp, .slice (some ⟨G, 0, none⟩) m d], Joins.ownsRow_le (own_keep hO2 hb2) (by omega), hwQ, hRl, by have := hf2.size; omega, by omega, by omega⟩
  obtain ⟨M, HM⟩ : ∃ M, Hid (M = w2.heap.size) := ⟨_, rfl⟩
  rw [← HM.out] at HD0
  have HD := Lib.hid HD0
  clear HD0 hR1 hQ1 hF1 hO2 hR2 hf2 hb2 hs1 hQl hG2
  go_wp2_with fail
  rw [← HM.out]
  generalize w2.alloc (.cells #[.int .i64 wd, .int .i64 dp, .slice (some ⟨G, 0, none⟩) m d] 25) = w3 at *
  clear HM
  refine (pick_any w0 _ R A n c bs _ 3 HD.out.rd (by omega)).mono ?_; rintro e w4 ⟨a, rfl, ha0, ha1, -, hR4, hf4⟩
  have HD4 := Lib.hid (HD.out.go hR4 hf4)
  clear HD hR4 hf4
  replace ha1 := ha1 (by omega)
  by_cases ha : 0 < a
  · have hd : decide (0 < a) = true := by simpa using ha
    go_wp2_with fail
    refine (pick_any w0 _ R A n c bs _ 2 HD4.out.rd (by omega)).mono ?_; rintro e w5 ⟨b, rfl, hb0, hb1, -, hR5, hf5⟩
    have HD5 := Lib.hid (HD4.out.go hR5 hf5)
    clear HD4 hR5 hf5
    replace hb1 := hb1 (by omega)
    go_wp2
    go_loopw [7, 9] (fun v i wr => ∃ (k : Nat) (id : Int) (g : List Int), k ≤ m ∧ v = .int .i64 id ∧ i = .int .i64 k ∧ 70 ≤ id ∧ id ≤ 70 + k ∧ Hid (DH w0 w wr R A n c bs (J + 102 + k) Q M wd dp G m d g)) (fun _ i _ => m - (intOf i).toNat)
    case atStart => exact ⟨0, 70, g, Nat.zero_le _, rfl, rfl, by omega, by omega, Lib.hid (HD5.out.more (by omega))⟩
    case round =>
      obtain ⟨k, id, g, hk, rfl, rfl, hi1, hi2, HD⟩ := hrel
      clear HD5
      have m0 := HD.out.sm.cell 0
      have m1 := HD.out.sm.cell 1
      have m2 := HD.out.sm.cell 2
      simp only [List.getElem?_cons_zero, List.getElem?_cons_succ] at m0 m1 m2
      by_cases hlt : k < m
      · obtain ⟨v, hv⟩ : ∃ v, hallB wd dp g = v := ⟨_, rfl⟩
        have hI := ints_own HD.out.own
        have hdm := hI.2.2
        unfold maxLen at hdm
        go_wp2_with fail
        refine (specHallFree_any wd dp m _ d g wr (by omega) hI.2.1 hI.1 v hv).mono ?_; rintro e w6 ⟨FA, fn, fc, rfl, hOf, hb6⟩
        have HD6 := Lib.hid (HD.out.below hb6)
        have hfn : fn ≤ m := by have h1 := hOf.1; have h2 : (freeH v g m).length ≤ m := (by unfold freeH; split; exact freeP_len g m; simp); simp at h1; omega
        clear HD hI hv hOf hb6 m0 m1 m2
        have m2 := HD6.out.sm.cell 2
        simp only [List.getElem?_cons_zero, List.getElem?_cons_succ] at m2
        by_cases hf : 1 + b < fn
        · have hfd : decide (1 + b < (fn : Int)) = true := by simpa using hf
          obtain ⟨z, bb, off, HZ, hA, hbb, hc⟩ := (ints_own HD6.out.own).1.get hlt
          injection hA with hA; injection hA with e1 e2; subst e1; subst e2
          simp only [Nat.zero_add] at hc
          by_cases hz : z = 0
          · subst hz
            go_wp2_with fail
            refine (pick_any w0 _ R A n c bs _ 5 HD6.out.rd (by omega)).mono ?_; rintro e w7 ⟨x, rfl, hx0, hx1, -, hR7, hf7⟩
            have HD7 := Lib.hid (HD6.out.go hR7 hf7)
            clear HD6 hR7 hf7 m2 hc
            replace hx1 := hx1 (by omega)
            have m2 := HD7.out.sm.cell 2
            simp only [List.getElem?_cons_zero, List.getElem?_cons_succ] at m2
            by_cases hx : 0 < x
            · have hxd : decide (0 < x) = true := by simpa using hx
              obtain ⟨⟨u, hu⟩, hfz, hwG, hGl⟩ := own_cell (i := k) HD7.out.own hlt
              have HD8 := Lib.hid (HD7.out.put k id)
              go_wp2
              go_roundw
              case rel => exact ⟨k + 1, id + 1, g.set k id, by omega, rfl, by go_num, by omega, by omega, Lib.hid (HD8.out.more (by omega))⟩
              case measure => simp [intOf]; omega
            · have hxd : decide (0 < x) = false := by simpa using hx
              clear hx
              go_wp2
              go_roundw
              case rel => exact ⟨k + 1, id, g, by omega, rfl, by go_num, by omega, by omega, Lib.hid (HD7.out.more (by omega))⟩
              case measure => simp [intOf]; omega
          · have hzd : (z == 0) = false := by simpa using hz
            clear hz
            go_wp2
            go_roundw
            case rel => exact ⟨k + 1, id, g, by omega, rfl, by go_num, by omega, by omega, Lib.hid (HD6.out.more (by omega))⟩
            case measure => simp [intOf]; omega
        · have hfd : decide (1 + b < (fn : Int)) = false := by simpa using hf
          clear hf m2
          go_upto_region 11 with fail
          have HDc := Lib.hid (HD6.out.below (Below.refl _ _).drew)
          have hQM := HDc.out.QM
          clear HD6
          refine wp_region_held_drew (S := (fun w' => w'.cell? ⟨M, 0, none⟩ = some (.int .i64 wd) ∧ w'.cell? ⟨M, 1, none⟩ = some (.int .i64 dp) ∧ w'.cell? ⟨M, 2, none⟩ = some (.slice (some ⟨G, 0, none⟩) m d))) (by kernel_rfl) ?_ (fun hHeld => ?_)
          · (try dsimp only); first | exact ⟨HDc.out.sm.cell 0, HDc.out.sm.cell 1, HDc.out.sm.cell 2⟩ | exact ⟨hMX.cell 0, hMX.cell 1, hMX.cell 2⟩
          refine wpAnyH_take (i := 0) (v := ?vq1_0_1) (by simp only [List.getElem?_toArray, List.getElem?_cons_zero]; rfl) (by kernel_rfl) (by kernel_rfl) (by kernel_rfl) (by exact fun _ _ _ h => h) (Or.inl ⟨by rfl, ?hq1_0_1⟩) hHeld ?rq1_0_1
          case hq1_0_1 => (intro w hSw; (try dsimp only at hSw); go_simp; (try with_reducible rfl))
          try simp only [put_laws]
          refine wpAnyH_take (i := 1) (v := ?vq1_1_2) (by simp only [List.getElem?_toArray, List.getElem?_cons_succ, List.getElem?_cons_zero]; rfl) (by kernel_rfl) (by kernel_rfl) (by kernel_rfl) (by exact fun _ _ _ h => h) (Or.inl ⟨by rfl, ?hq1_1_2⟩) hHeld ?rq1_1_2
          case hq1_1_2 => (intro w hSw; (try dsimp only at hSw); go_simp; (try with_reducible rfl))
          try simp only [put_laws]
          refine wpAnyH_take (i := 2) (v := ?vq1_2_3) (by simp only [List.getElem?_toArray, List.getElem?_cons_succ, List.getElem?_cons_zero]; rfl) (by kernel_rfl) (by kernel_rfl) (by kernel_rfl) (by exact fun _ _ _ h => h) (Or.inl ⟨by rfl, ?hq1_2_3⟩) hHeld ?rq1_2_3
          case hq1_2_3 => (intro w hSw; (try dsimp only at hSw); go_simp; (try with_reducible rfl))
          try simp only [put_laws]
          refine wpAnyH_ready (rs := [3]) (by kernel_rfl) (by simp) ?_
          refine AllReadyH.cons (by simp only [List.getElem?_toArray, List.getElem?_cons_succ, List.getElem?_cons_zero]; rfl) (fun K hK => ?_) AllReadyH.nil
          go_simp
          have hI := ints_own HDc.out.own; refine (l20Car_any w0 _ R A n c bs _ wd dp (some ⟨G, 0, none⟩) m d g HDc.out.rd (by omega) (by omega) hI.2.1 hI.1).mono ?_; rintro e wp ⟨z, rfl, hRp, hfp⟩; replace HDc := Lib.hid (HDc.out.go hRp hfp); clear hI hRp hfp
          refine hK.out _ _ ?_ (fun hHeld => ?_)
          · (try dsimp only); first | exact ⟨HDc.out.sm.cell 0, HDc.out.sm.cell 1, HDc.out.sm.cell 2⟩ | exact ⟨hMX.cell 0, hMX.cell 1, hMX.cell 2⟩
          clear hK K
          try simp only [put_laws]
          have q0 := HDc.out.sq.cell 0; have q1 := HDc.out.sq.cell 1; have q2 := HDc.out.sq.cell 2; have z0 := HDc.out.sq.free 0; have z1 := HDc.out.sq.free 1; have z2 := HDc.out.sq.free 2; simp only [List.getElem?_cons_zero, List.getElem?_cons_succ] at q0 q1 q2; have hMX := ((HDc.out.sm.far (p := ⟨Q, 0, none⟩) (by show M ≠ Q; omega) (.int .i64 wd)).far (p := ⟨Q, 1, none⟩) (by show M ≠ Q; omega) (.int .i64 dp)).far (p := ⟨Q, 2, none⟩) (by show M ≠ Q; omega) (.slice (some ⟨G, 0, none⟩) m d)
          refine wpAnyH_ready (rs := [4]) (by kernel_rfl) (by simp) ?_
          refine AllReadyH.cons (by simp only [List.getElem?_toArray, List.getElem?_cons_succ, List.getElem?_cons_zero]; rfl) (fun K hK => ?_) AllReadyH.nil
          go_simp
          skip
          refine hK.out _ _ ?_ (fun hHeld => ?_)
          · (try dsimp only); first | exact ⟨HDc.out.sm.cell 0, HDc.out.sm.cell 1, HDc.out.sm.cell 2⟩ | exact ⟨hMX.cell 0, hMX.cell 1, hMX.cell 2⟩
          clear hK K
          try simp only [put_laws]
          refine wpAnyH_take (i := 5) (v := ?vq1_5_6) (by simp only [List.getElem?_toArray, List.getElem?_cons_succ, List.getElem?_cons_zero]; rfl) (by kernel_rfl) (by kernel_rfl) (by kernel_rfl) (by exact fun _ _ _ h => h) (Or.inl ⟨by rfl, ?hq1_5_6⟩) hHeld ?rq1_5_6
          case hq1_5_6 => (intro w hSw; (try dsimp only at hSw); go_simp; (try with_reducible rfl))
          try simp only [put_laws]
          refine wpAnyH_done (by kernel_rfl) ?_ _
          have hDz := HDc.out.finC (K' := J + 200) hm4 hm13 (by omega) z
          obtain ⟨hQz, -⟩ := HDc.out.fin (K' := J + 200) hm4 hm13 (by omega)
          clear hMX hHeld
          go_wp2
          generalize (((wp.setCell ⟨Q, 0, none⟩ (.int .i64 wd)).setCell ⟨Q, 1, none⟩ (.int .i64 dp)).setCell ⟨Q, 2, none⟩ (.slice (some ⟨G, 0, none⟩) m d)) = wz at *
          have e0 : wz.cell? ⟨Q, 0, none⟩ = some (.int .i64 wd) := hQz.cell 0
          have e1 : wz.cell? ⟨Q, 1, none⟩ = some (.int .i64 dp) := hQz.cell 1
          have e2 : wz.cell? ⟨Q, 2, none⟩ = some (.slice (some ⟨G, 0, none⟩) m d) := hQz.cell 2
          exact bodyPost_ret (v := .tuple #[.agg #[.int .i64 wd, .int .i64 dp, .slice (some ⟨G, 0, none⟩) m d], .int .i64 z]) (by simp [results, Tryz.results15, go_sem, e0, e1, e2]) rfl hDz
      · obtain rfl : m = k := by omega
        go_upto_region 11 with fail
        have HDc := Lib.hid (HD.out.below (Below.refl _ _).drew)
        have hQM := HDc.out.QM
        clear HD
        refine wp_region_held_drew (S := (fun w' => w'.cell? ⟨M, 0, none⟩ = some (.int .i64 wd) ∧ w'.cell? ⟨M, 1, none⟩ = some (.int .i64 dp) ∧ w'.cell? ⟨M, 2, none⟩ = some (.slice (some ⟨G, 0, none⟩) m d))) (by kernel_rfl) ?_ (fun hHeld => ?_)
        · (try dsimp only); first | exact ⟨HDc.out.sm.cell 0, HDc.out.sm.cell 1, HDc.out.sm.cell 2⟩ | exact ⟨hMX.cell 0, hMX.cell 1, hMX.cell 2⟩
        refine wpAnyH_take (i := 0) (v := ?vq2_0_1) (by simp only [List.getElem?_toArray, List.getElem?_cons_zero]; rfl) (by kernel_rfl) (by kernel_rfl) (by kernel_rfl) (by exact fun _ _ _ h => h) (Or.inl ⟨by rfl, ?hq2_0_1⟩) hHeld ?rq2_0_1
        case hq2_0_1 => (intro w hSw; (try dsimp only at hSw); go_simp; (try with_reducible rfl))
        try simp only [put_laws]
        refine wpAnyH_take (i := 1) (v := ?vq2_1_2) (by simp only [List.getElem?_toArray, List.getElem?_cons_succ, List.getElem?_cons_zero]; rfl) (by kernel_rfl) (by kernel_rfl) (by kernel_rfl) (by exact fun _ _ _ h => h) (Or.inl ⟨by rfl, ?hq2_1_2⟩) hHeld ?rq2_1_2
        case hq2_1_2 => (intro w hSw; (try dsimp only at hSw); go_simp; (try with_reducible rfl))
        try simp only [put_laws]
        refine wpAnyH_take (i := 2) (v := ?vq2_2_3) (by simp only [List.getElem?_toArray, List.getElem?_cons_succ, List.getElem?_cons_zero]; rfl) (by kernel_rfl) (by kernel_rfl) (by kernel_rfl) (by exact fun _ _ _ h => h) (Or.inl ⟨by rfl, ?hq2_2_3⟩) hHeld ?rq2_2_3
        case hq2_2_3 => (intro w hSw; (try dsimp only at hSw); go_simp; (try with_reducible rfl))
        try simp only [put_laws]
        refine wpAnyH_ready (rs := [3]) (by kernel_rfl) (by simp) ?_
        refine AllReadyH.cons (by simp only [List.getElem?_toArray, List.getElem?_cons_succ, List.getElem?_cons_zero]; rfl) (fun K hK => ?_) AllReadyH.nil
        go_simp
        have hI := ints_own HDc.out.own; refine (l20Car_any w0 _ R A n c bs _ wd dp (some ⟨G, 0, none⟩) m d g HDc.out.rd (by omega) (by omega) hI.2.1 hI.1).mono ?_; rintro e wp ⟨z, rfl, hRp, hfp⟩; replace HDc := Lib.hid (HDc.out.go hRp hfp); clear hI hRp hfp
        refine hK.out _ _ ?_ (fun hHeld => ?_)
        · (try dsimp only); first | exact ⟨HDc.out.sm.cell 0, HDc.out.sm.cell 1, HDc.out.sm.cell 2⟩ | exact ⟨hMX.cell 0, hMX.cell 1, hMX.cell 2⟩
        clear hK K
        try simp only [put_laws]
        have q0 := HDc.out.sq.cell 0; have q1 := HDc.out.sq.cell 1; have q2 := HDc.out.sq.cell 2; have z0 := HDc.out.sq.free 0; have z1 := HDc.out.sq.free 1; have z2 := HDc.out.sq.free 2; simp only [List.getElem?_cons_zero, List.getElem?_cons_succ] at q0 q1 q2; have hMX := ((HDc.out.sm.far (p := ⟨Q, 0, none⟩) (by show M ≠ Q; omega) (.int .i64 wd)).far (p := ⟨Q, 1, none⟩) (by show M ≠ Q; omega) (.int .i64 dp)).far (p := ⟨Q, 2, none⟩) (by show M ≠ Q; omega) (.slice (some ⟨G, 0, none⟩) m d)
        refine wpAnyH_ready (rs := [4]) (by kernel_rfl) (by simp) ?_
        refine AllReadyH.cons (by simp only [List.getElem?_toArray, List.getElem?_cons_succ, List.getElem?_cons_zero]; rfl) (fun K hK => ?_) AllReadyH.nil
        go_simp
        skip
        refine hK.out _ _ ?_ (fun hHeld => ?_)
        · (try dsimp only); first | exact ⟨HDc.out.sm.cell 0, HDc.out.sm.cell 1, HDc.out.sm.cell 2⟩ | exact ⟨hMX.cell 0, hMX.cell 1, hMX.cell 2⟩
        clear hK K
        try simp only [put_laws]
        refine wpAnyH_take (i := 5) (v := ?vq2_5_6) (by simp only [List.getElem?_toArray, List.getElem?_cons_succ, List.getElem?_cons_zero]; rfl) (by kernel_rfl) (by kernel_rfl) (by kernel_rfl) (by exact fun _ _ _ h => h) (Or.inl ⟨by rfl, ?hq2_5_6⟩) hHeld ?rq2_5_6
        case hq2_5_6 => (intro w hSw; (try dsimp only at hSw); go_simp; (try with_reducible rfl))
        try simp only [put_laws]
        refine wpAnyH_done (by kernel_rfl) ?_ _
        have hDz := HDc.out.finC (K' := J + 200) hm4 hm13 (by omega) z
        obtain ⟨hQz, -⟩ := HDc.out.fin (K' := J + 200) hm4 hm13 (by omega)
        clear hMX hHeld
        go_wp2
        generalize (((wp.setCell ⟨Q, 0, none⟩ (.int .i64 wd)).setCell ⟨Q, 1, none⟩ (.int .i64 dp)).setCell ⟨Q, 2, none⟩ (.slice (some ⟨G, 0, none⟩) m d)) = wz at *
        have e0 : wz.cell? ⟨Q, 0, none⟩ = some (.int .i64 wd) := hQz.cell 0
        have e1 : wz.cell? ⟨Q, 1, none⟩ = some (.int .i64 dp) := hQz.cell 1
        have e2 : wz.cell? ⟨Q, 2, none⟩ = some (.slice (some ⟨G, 0, none⟩) m d) := hQz.cell 2
        exact bodyPost_ret (v := .tuple #[.agg #[.int .i64 wd, .int .i64 dp, .slice (some ⟨G, 0, none⟩) m d], .int .i64 z]) (by simp [results, Tryz.results15, go_sem, e0, e1, e2]) rfl hDz
  · have hd : decide (0 < a) = false := by simpa using ha
    clear ha
    go_upto_region 11 with fail
    have HDc := Lib.hid (HD4.out.below (Below.refl _ _).drew)
    have hQM := HDc.out.QM
    clear HD4
    refine wp_region_held_drew (S := (fun w' => w'.cell? ⟨M, 0, none⟩ = some (.int .i64 wd) ∧ w'.cell? ⟨M, 1, none⟩ = some (.int .i64 dp) ∧ w'.cell? ⟨M, 2, none⟩ = some (.slice (some ⟨G, 0, none⟩) m d))) (by kernel_rfl) ?_ (fun hHeld => ?_)
    · (try dsimp only); first | exact ⟨HDc.out.sm.cell 0, HDc.out.sm.cell 1, HDc.out.sm.cell 2⟩ | exact ⟨hMX.cell 0, hMX.cell 1, hMX.cell 2⟩
    refine wpAnyH_take (i := 0) (v := ?vq3_0_1) (by simp only [List.getElem?_toArray, List.getElem?_cons_zero]; rfl) (by kernel_rfl) (by kernel_rfl) (by kernel_rfl) (by exact fun _ _ _ h => h) (Or.inl ⟨by rfl, ?hq3_0_1⟩) hHeld ?rq3_0_1
    case hq3_0_1 => (intro w hSw; (try dsimp only at hSw); go_simp; (try with_reducible rfl))
    try simp only [put_laws]
    refine wpAnyH_take (i := 1) (v := ?vq3_1_2) (by simp only [List.getElem?_toArray, List.getElem?_cons_succ, List.getElem?_cons_zero]; rfl) (by kernel_rfl) (by kernel_rfl) (by kernel_rfl) (by exact fun _ _ _ h => h) (Or.inl ⟨by rfl, ?hq3_1_2⟩) hHeld ?rq3_1_2
    case hq3_1_2 => (intro w hSw; (try dsimp only at hSw); go_simp; (try with_reducible rfl))
    try simp only [put_laws]
    refine wpAnyH_take (i := 2) (v := ?vq3_2_3) (by simp only [List.getElem?_toArray, List.getElem?_cons_succ, List.getElem?_cons_zero]; rfl) (by kernel_rfl) (by kernel_rfl) (by kernel_rfl) (by exact fun _ _ _ h => h) (Or.inl ⟨by rfl, ?hq3_2_3⟩) hHeld ?rq3_2_3
    case hq3_2_3 => (intro w hSw; (try dsimp only at hSw); go_simp; (try with_reducible rfl))
    try simp only [put_laws]
    refine wpAnyH_ready (rs := [3]) (by kernel_rfl) (by simp) ?_
    refine AllReadyH.cons (by simp only [List.getElem?_toArray, List.getElem?_cons_succ, List.getElem?_cons_zero]; rfl) (fun K hK => ?_) AllReadyH.nil
    go_simp
    have hI := ints_own HDc.out.own; refine (l20Car_any w0 _ R A n c bs _ wd dp (some ⟨G, 0, none⟩) m d g HDc.out.rd (by omega) (by omega) hI.2.1 hI.1).mono ?_; rintro e wp ⟨z, rfl, hRp, hfp⟩; replace HDc := Lib.hid (HDc.out.go hRp hfp); clear hI hRp hfp
    refine hK.out _ _ ?_ (fun hHeld => ?_)
    · (try dsimp only); first | exact ⟨HDc.out.sm.cell 0, HDc.out.sm.cell 1, HDc.out.sm.cell 2⟩ | exact ⟨hMX.cell 0, hMX.cell 1, hMX.cell 2⟩
    clear hK K
    try simp only [put_laws]
    have q0 := HDc.out.sq.cell 0; have q1 := HDc.out.sq.cell 1; have q2 := HDc.out.sq.cell 2; have z0 := HDc.out.sq.free 0; have z1 := HDc.out.sq.free 1; have z2 := HDc.out.sq.free 2; simp only [List.getElem?_cons_zero, List.getElem?_cons_succ] at q0 q1 q2; have hMX := ((HDc.out.sm.far (p := ⟨Q, 0, none⟩) (by show M ≠ Q; omega) (.int .i64 wd)).far (p := ⟨Q, 1, none⟩) (by show M ≠ Q; omega) (.int .i64 dp)).far (p := ⟨Q, 2, none⟩) (by show M ≠ Q; omega) (.slice (some ⟨G, 0, none⟩) m d)
    refine wpAnyH_ready (rs := [4]) (by kernel_rfl) (by simp) ?_
    refine AllReadyH.cons (by simp only [List.getElem?_toArray, List.getElem?_cons_succ, List.getElem?_cons_zero]; rfl) (fun K hK => ?_) AllReadyH.nil
    go_simp
    skip
    refine hK.out _ _ ?_ (fun hHeld => ?_)
    · (try dsimp only); first | exact ⟨HDc.out.sm.cell 0, HDc.out.sm.cell 1, HDc.out.sm.cell 2⟩ | exact ⟨hMX.cell 0, hMX.cell 1, hMX.cell 2⟩
    clear hK K
    try simp only [put_laws]
    refine wpAnyH_take (i := 5) (v := ?vq3_5_6) (by simp only [List.getElem?_toArray, List.getElem?_cons_succ, List.getElem?_cons_zero]; rfl) (by kernel_rfl) (by kernel_rfl) (by kernel_rfl) (by exact fun _ _ _ h => h) (Or.inl ⟨by rfl, ?hq3_5_6⟩) hHeld ?rq3_5_6
    case hq3_5_6 => (intro w hSw; (try dsimp only at hSw); go_simp; (try with_reducible rfl))
    try simp only [put_laws]
    refine wpAnyH_done (by kernel_rfl) ?_ _
    have hDz := HDc.out.finC (K' := J + 200) hm4 hm13 (by omega) z
    obtain ⟨hQz, -⟩ := HDc.out.fin (K' := J + 200) hm4 hm13 (by omega)
    clear hMX hHeld
    go_wp2
    generalize (((wp.setCell ⟨Q, 0, none⟩ (.int .i64 wd)).setCell ⟨Q, 1, none⟩ (.int .i64 dp)).setCell ⟨Q, 2, none⟩ (.slice (some ⟨G, 0, none⟩) m d)) = wz at *
    have e0 : wz.cell? ⟨Q, 0, none⟩ = some (.int .i64 wd) := hQz.cell 0
    have e1 : wz.cell? ⟨Q, 1, none⟩ = some (.int .i64 dp) := hQz.cell 1
    have e2 : wz.cell? ⟨Q, 2, none⟩ = some (.slice (some ⟨G, 0, none⟩) m d) := hQz.cell 2
    exact bodyPost_ret (v := .tuple #[.agg #[.int .i64 wd, .int .i64 dp, .slice (some ⟨G, 0, none⟩) m d], .int .i64 z]) (by simp [results, Tryz.results15, go_sem, e0, e1, e2]) rfl hDz
end Go.Proofs.YtdebjcempkgeaaaGreatDoor
