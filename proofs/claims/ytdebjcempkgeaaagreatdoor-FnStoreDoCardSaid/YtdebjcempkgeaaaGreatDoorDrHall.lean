/-
  The hall that the reference draws.
-/
import Derived.Test.YtdebjcempkgeaaaGreatDoorDrHA
import Derived.Deep.CutRange
namespace Go.Proofs.YtdebjcempkgeaaaGreatDoor
open Go.ChangeShapes Go.WideShapes Go.ChangeAt Go.RowKit

set_option maxRecDepth 100000 in
set_option maxHeartbeats 8000000 in
theorem l20Hall_any (w0 w : World) (R : Nat) (A : Option Addr) (n c : Nat) (bs : List Int) (J : Nat) (q : Int) (h : Rd w0 w R A n c bs J) (hJ : J ≤ 800000) (hq : 0 ≤ q) (hq2 : q ≤ 1000) :
    Calls Tryz.prog 30 #[.pointer (some ⟨R, 0, none⟩), .int .i64 q] w (DrawH w0 w R A n c bs (J + 100)) := by
  have hRl := h.lt
  have hbA : Below w.heap.size w (w.alloc (.cells #[.int .i64 0, .int .i64 0, .slice none 0 0] 25)) := (Below.refl _ _).alloc (Nat.le_refl _) _
  have hR1 := h.below hbA
  have hQ1 : Whole (w.alloc (.cells #[.int .i64 0, .int .i64 0, .slice none 0 0] 25)) w.heap.size 25 [.int .i64 0, .int .i64 0, .slice none 0 0] := Whole.new w _ _
  have hF1 : Fr1 R w (w.alloc (.cells #[.int .i64 0, .int .i64 0, .slice none 0 0] 25)) := (Fr1.refl R w).below hbA
  obtain ⟨Q, HQ⟩ : ∃ Q, Hid (Q = w.heap.size) := ⟨_, rfl⟩
  have hwQ : w.heap.size ≤ Q := Nat.le_of_eq HQ.out.symm
  clear h
  go_enter Tryz.func30, Tryz.ntmps30
  go_wp2_with fail
  rw [← HQ.out] at hQ1 ⊢
  generalize w.alloc (.cells #[.int .i64 0, .int .i64 0, .slice none 0 0] 25) = w1 at *
  refine (pick_any w0 _ R A n c bs J 3 hR1 (by omega)).mono ?_; rintro e w2 ⟨a, rfl, ha0, ha1, -, hR2, hf2⟩
  go_wp2_with fail
  refine (pick_any w0 _ R A n c bs (J + 1) 2 hR2 (by omega)).mono ?_; rintro e w3 ⟨b, rfl, hb0, hb1, -, hR3, hf3⟩
  replace ha1 := ha1 (by omega)
  replace hb1 := hb1 (by omega)
  obtain ⟨W, HW⟩ : ∃ W : Nat, Hid (2 + a = (W : Int)) := ⟨(2 + a).toNat, Lib.hid (by omega)⟩
  obtain ⟨D, HD⟩ : ∃ D : Nat, Hid (2 + b = (D : Int)) := ⟨(2 + b).toNat, Lib.hid (by omega)⟩
  obtain ⟨m, hm⟩ : ∃ m, Hid (m = W * D) := ⟨_, rfl⟩
  have S : Shp W D m := ⟨by have := HW.out; omega, by have := HW.out; omega, by have := HD.out; omega, by have := HD.out; omega, hm.out⟩
  have hWw : IntKind.i64.wrap (2 + a) = (W : Int) := by rw [HW.out]; exact IntWalk.i64_in _ (by have := S.w2; omega)
  have hDw : IntKind.i64.wrap (2 + b) = (D : Int) := by rw [HD.out]; exact IntWalk.i64_in _ (by have := S.d2; omega)
  go_wp2_with fail
  rw [HW.out]
  refine (hallEmpty_any W D m _ S).mono ?_; rintro e w4 ⟨G, d, rfl, hO4, hb4⟩
  have hB4 := (hb4.alloc hb4.size (.cells #[.int .i64 W, .int .i64 D, .slice (some ⟨G, 0, none⟩) m d] 25))
  have hs1 := hF1.size
  have hs2 := hf2.size
  have hs3 := hf3.size
  have hs4 := hb4.size
  have hQl := hQ1.lt
  have hG4 := hO4.lt G rfl
  have hs5 := hB4.size
  have hR5 := hR3.below hB4
  have hF5 := ((hF1.trans hf2).trans hf3).below hB4
  have hQ5 := ((hQ1.fr1 hf2 (by omega)).fr1 hf3 (by omega)).below hB4
  have hM5 := Whole.new w4 25 [.int .i64 W, .int .i64 D, .slice (some ⟨G, 0, none⟩) m d]
  have hO5 := Joins.ownsRow_le (base' := w.heap.size) (own_keep hO4 ((Below.refl w4.heap.size w4).alloc (Nat.le_refl _) (.cells #[.int .i64 W, .int .i64 D, .slice (some ⟨G, 0, none⟩) m d] 25))) (by omega)
  have HGO := Lib.hid (GenOk.start m)
  obtain ⟨M, HM⟩ : ∃ M, Hid (M = w4.heap.size) := ⟨_, rfl⟩
  go_wp2_with fail
  have hMq : Q < M := by rw [HM.out]; omega
  have hGQ : G ≠ Q := by omega
  have hGM : G ≠ M := by rw [HM.out]; omega
  rw [← HM.out] at hM5 ⊢
  generalize w4.alloc (.cells #[.int .i64 W, .int .i64 D, .slice (some ⟨G, 0, none⟩) m d] 25) = w5 at *
  have HD4 : Hid (DH w0 w w5 R A n c bs (J + 1 + 1) Q M W D G m d (List.replicate m 0)) := Lib.hid ⟨hR5, hF5, hQ5, hM5, hO5, hwQ, hRl, hMq, hGQ, hGM⟩
  refine (pick_any w0 _ R A n c bs (J + 1 + 1) 5 HD4.out.rd (by omega)).mono ?_; rintro e w6 ⟨o, rfl, ho0, ho1, -, hR6, hf6⟩
  have HD6 := Lib.hid (HD4.out.go hR6 hf6)
  replace ho1 := ho1 (by omega)
  clear hR1 hQ1 hF1 hR2 hf2 hR3 hf3 hs1 hs2 hs3 hs4 hO4 hb4 hB4 hQl hG4 HD4 hR6 hf6 hbA HM ha0 ha1 hb0 hb1 hWw hDw
  have hn12 := S.n12
  go_wp2
  go_loopw [7, 8] (fun v i wr => ∃ (k : Nat) (id : Int) (g : List Int), k ≤ m ∧ v = .int .i64 id ∧ i = .int .i64 k ∧ Hid (GenOk g m k id) ∧ Hid (DH w0 w wr R A n c bs (J + 1 + 1 + 1 + 2 * k) Q M W D G m d g)) (fun _ i _ => m - (intOf i).toNat)
  case atStart => exact ⟨0, 0, _, Nat.zero_le _, rfl, rfl, HGO, HD6⟩
  case round =>
    obtain ⟨k, id, g, hk, rfl, rfl, HG, HD⟩ := hrel
    clear HD6 HGO
    have m2 := HD.out.sm.cell 2
    simp only [List.getElem?_cons_zero, List.getElem?_cons_succ] at m2
    have hi0 := HG.out.i0
    have hi5 := HG.out.i5
    by_cases hlt : k < m
    · go_wp2_with fail
      refine (pick_any w0 _ R A n c bs _ 6 HD.out.rd (by omega)).mono ?_; rintro e w7 ⟨x, rfl, hx0, hx1, -, hR7, hf7⟩
      have HD7 := Lib.hid (HD.out.go hR7 hf7)
      clear HD hR7 hf7 m2
      by_cases hxo : x < 1 + o
      · have hxd : decide (x < 1 + o) = true := by simpa using hxo
        go_wp2_with fail
        refine (pick_any w0 _ R A n c bs _ 5 HD7.out.rd (by omega)).mono ?_; rintro e w8 ⟨y, rfl, hy0, hy1, -, hR8, hf8⟩
        replace hy1 := hy1 (by omega)
        have HD8 := Lib.hid (HD7.out.go hR8 hf8)
        clear HD7 hR8 hf8
        have m2 := HD8.out.sm.cell 2
        simp only [List.getElem?_cons_zero, List.getElem?_cons_succ] at m2
        obtain ⟨⟨u, hu⟩, hfz, hwG, hGl⟩ := own_cell (i := k) HD8.out.own hlt
        have HG8 := Lib.hid (HG.out.put (a := 1 + y) hlt (by omega) (by omega))
        have HD9 := Lib.hid (HD8.out.put k (id + 1 + y))
        have hw1 : IntKind.i64.wrap (id + 1) = id + 1 := IntWalk.i64_in _ (by omega)
        have hw2 : IntKind.i64.wrap (id + 1 + y) = id + 1 + y := IntWalk.i64_in _ (by omega)
        rw [show id + (1 + y) = id + 1 + y by omega] at HG8
        go_wp2
        go_roundw
        case rel => exact ⟨k + 1, id + 1 + y, g.set k (id + 1 + y), by omega, rfl, by go_num, HG8, Lib.hid (HD9.out.more (by omega))⟩
        case measure => simp [intOf]; omega
      · have hxd : decide (x < 1 + o) = false := by simpa using hxo
        go_wp2
        go_roundw
        case rel => exact ⟨k + 1, id, g, by omega, rfl, by go_num, Lib.hid HG.out.skip, Lib.hid (HD7.out.more (by omega))⟩
        case measure => simp [intOf]; omega
    · obtain rfl : k = m := by omega
      have HOK := Lib.hid (HG.out.hall S (Nat.le_refl _))
      go_wp2_with fail
      refine (pick_any w0 _ R A n c bs _ 6 HD.out.rd (by omega)).mono ?_; rintro e w7 ⟨t, rfl, ht0, ht1, -, hR7, hf7⟩
      replace ht1 := ht1 (by omega)
      have HD7 := Lib.hid (HD.out.go hR7 hf7)
      obtain ⟨t, rfl⟩ : ∃ t' : Nat, t = t' := ⟨t.toNat, by omega⟩
      obtain ⟨J2, hJ2⟩ : ∃ J2, Hid (J2 = J + 1 + 1 + 1 + 2 * k + 1) := ⟨_, rfl⟩
      have hJ3 : J2 ≤ J + 28 := by rw [hJ2.out]; omega
      rw [← hJ2.out] at HD7
      clear HD hR7 hf7 m2 HG hi0 hi5 hlt hk ht0 hO5 hM5 hQ5 hF5 hR5 hs5 ho0 ho1 hGQ hGM
      go_wp2
      go_loopw [9] (fun i wr => ∃ (l G d : Nat) (g : List Int), l ≤ t ∧ i = .int .i64 l ∧ Hid (hallB W D g = true) ∧ Hid (DH w0 w wr R A n c bs (J2 + (t - l)) Q M W D G k d g)) (fun i _ => (intOf i).toNat)
      case atStart => exact ⟨t, G, d, g, Nat.le_refl _, rfl, HOK, by rw [Nat.sub_self]; exact HD7⟩
      case round =>
        obtain ⟨l, G, d, g, hl, rfl, HOK2, HD⟩ := hrel
        clear HD7 HOK
        have hRQ := HD.out.RQ
        have hws := HD.out.fr.size
        by_cases hlt : 0 < l
        · have m0 := HD.out.sm.cell 0
          have m1 := HD.out.sm.cell 1
          have m2 := HD.out.sm.cell 2
          simp only [List.getElem?_cons_zero, List.getElem?_cons_succ] at m0 m1 m2
          go_wp2_with fail
          refine (specSlidesAll_any W D k _ d g _ (HD.out.hall S HOK2.out)).mono ?_; rintro e w9 ⟨sl, HSL, hsl, SA, sm, sc, rfl, hOS, hsm, hb9⟩
          have HD9 := Lib.hid (HD.out.below hb9)
          clear HD hb9 m0 m1 m2
          by_cases hs0 : 0 < sm
          · obtain ⟨SG, rfl⟩ := ownS_block hOS hs0
            obtain ⟨hSA9, hsc1, hsc2⟩ := own_slAt hOS hsm
            have hsm144 : sm ≤ 144 := by omega
            have m0 := HD9.out.sm.cell 0
            have m1 := HD9.out.sm.cell 1
            have m2 := HD9.out.sm.cell 2
            simp only [List.getElem?_cons_zero, List.getElem?_cons_succ] at m0 m1 m2
            have hMl9 := HD9.out.sm.lt
            have hSl9 := hOS.lt SG rfl
            have hQM := HD9.out.QM
            have hwQ2 := HD9.out.wQ
            have hRs : R < wr.heap.size := by omega
            have HGL := Lib.hid (HD9.out.hall S HOK2.out).ints.len
            have hSRl : R ≠ SG := by omega
            have HDc := Lib.hid (HD9.out.below (Below.refl _ _).drew)
            replace hSA9 := hSA9.below (Below.refl _ _).drew
            clear HD9 hOS
            go_wp2
            refine wp_region_held_drew (S := (fun w' => w'.cell? ⟨M, 0, none⟩ = some (.int .i64 W) ∧ w'.cell? ⟨M, 1, none⟩ = some (.int .i64 D) ∧ w'.cell? ⟨M, 2, none⟩ = some (.slice (some ⟨G, 0, none⟩) k d) ∧ SlidesAt w' (some ⟨SG, 0, none⟩) sm sl)) (by kernel_rfl) ?_ (fun hHeld => ?_)
            · (try dsimp only); first | exact ⟨HDc.out.sm.cell 0, HDc.out.sm.cell 1, HDc.out.sm.cell 2, hSA9⟩ | exact ⟨hMX.cell 0, hMX.cell 1, hMX.cell 2, hSX⟩
            refine wpAnyH_take (i := 0) (v := ?vq1_0_1) (by simp only [List.getElem?_toArray, List.getElem?_cons_zero]; rfl) (by kernel_rfl) (by kernel_rfl) (by kernel_rfl) (by exact fun _ _ _ h => h) (Or.inl ⟨by rfl, ?hq1_0_1⟩) hHeld ?rq1_0_1
            case hq1_0_1 => (intro w hSw; (try dsimp only at hSw); go_simp; (try with_reducible rfl))
            try simp only [put_laws]
            refine wpAnyH_take (i := 1) (v := ?vq1_1_2) (by simp only [List.getElem?_toArray, List.getElem?_cons_succ, List.getElem?_cons_zero]; rfl) (by kernel_rfl) (by kernel_rfl) (by kernel_rfl) (by exact fun _ _ _ h => h) (Or.inl ⟨by rfl, ?hq1_1_2⟩) hHeld ?rq1_1_2
            case hq1_1_2 => (intro w hSw; (try dsimp only at hSw); go_simp; (try with_reducible rfl))
            try simp only [put_laws]
            refine wpAnyH_take (i := 2) (v := ?vq1_2_3) (by simp only [List.getElem?_toArray, List.getElem?_cons_succ, List.getElem?_cons_zero]; rfl) (by kernel_rfl) (by kernel_rfl) (by kernel_rfl) (by exact fun _ _ _ h => h) (Or.inl ⟨by rfl, ?hq1_2_3⟩) hHeld ?rq1_2_3
            case hq1_2_3 => (intro w hSw; (try dsimp only at hSw); go_simp; (try with_reducible rfl))
            try simp only [put_laws]
            refine wpAnyH_take (i := 3) (v := ?vq1_3_4) (by simp only [List.getElem?_toArray, List.getElem?_cons_succ, List.getElem?_cons_zero]; rfl) (by kernel_rfl) (by kernel_rfl) (by kernel_rfl) (by exact fun _ _ _ h => h) (Or.inl ⟨by rfl, ?hq1_3_4⟩) hHeld ?rq1_3_4
            case hq1_3_4 => (intro w hSw; (try dsimp only at hSw); go_simp; (try with_reducible rfl))
            try simp only [put_laws]
            refine wpAnyH_take (i := 4) (v := ?vq1_4_5) (by simp only [List.getElem?_toArray, List.getElem?_cons_succ, List.getElem?_cons_zero]; rfl) (by kernel_rfl) (by kernel_rfl) (by kernel_rfl) (by exact fun _ _ _ h => h) (Or.inl ⟨by rfl, ?hq1_4_5⟩) hHeld ?rq1_4_5
            case hq1_4_5 => (intro w hSw; (try dsimp only at hSw); go_simp; (try with_reducible rfl))
            try simp only [put_laws]
            refine wpAnyH_ready (rs := [5, 12]) (by kernel_rfl) (by simp) ?_
            refine AllReadyH.cons (by simp only [List.getElem?_toArray, List.getElem?_cons_succ, List.getElem?_cons_zero]; rfl) (fun K hK => ?f1_6_0) (AllReadyH.cons (by simp only [List.getElem?_toArray, List.getElem?_cons_succ, List.getElem?_cons_zero]; rfl) (fun K hK => ?f1_6_1) (AllReadyH.nil))
            case' f1_6_0 =>
              go_simp
              refine (pick_any w0 _ R A n c bs _ sm HDc.out.rd (by omega)).mono ?_; rintro e wp ⟨v, rfl, hv0, hv1, -, hRp, hfp⟩; replace HDc := Lib.hid (HDc.out.go hRp hfp); replace hSA9 := hSA9.fr1 hfp hSRl; (try replace hN := hN.fr1 hfp (by omega)); obtain ⟨v, rfl⟩ : ∃ v' : Nat, v = v' := ⟨v.toNat, by omega⟩; replace hv1 := hv1 (by omega); have hvl : v < sm := (by omega); obtain ⟨p, HP⟩ : ∃ p, Hid (sl[v]? = some p) := ⟨_, List.getElem?_eq_getElem (by omega)⟩; have hp1 : p.1 < k ∧ p.2 < k := HSL.out p (List.mem_of_getElem? HP.out)
              refine hK.out _ _ ?_ (fun hHeld => ?_)
              · (try dsimp only); first | exact ⟨HDc.out.sm.cell 0, HDc.out.sm.cell 1, HDc.out.sm.cell 2, hSA9⟩ | exact ⟨hMX.cell 0, hMX.cell 1, hMX.cell 2, hSX⟩
              clear hK K
              try simp only [put_laws]
              refine wpAnyH_take (i := 6) (v := ?vq1_6_7) (by simp only [List.getElem?_toArray, List.getElem?_cons_succ, List.getElem?_cons_zero]; rfl) (by kernel_rfl) (by kernel_rfl) (by kernel_rfl) (by exact fun _ _ _ h => h) (Or.inl ⟨by rfl, ?hq1_6_7⟩) hHeld ?rq1_6_7
              case hq1_6_7 => (intro w hSw; (try dsimp only at hSw); go_simp; (try with_reducible rfl))
              try simp only [put_laws]
              refine wpAnyH_take (i := 7) (v := ?vq1_7_8) (by simp only [List.getElem?_toArray, List.getElem?_cons_succ, List.getElem?_cons_zero]; rfl) (by kernel_rfl) (by kernel_rfl) (by kernel_rfl) (by exact fun _ _ _ h => h) (Or.inl ⟨by rfl, ?hq1_7_8⟩) hHeld ?rq1_7_8
              case hq1_7_8 => (intro w hSw; (try dsimp only at hSw); (obtain ⟨p', sb, soff, HP', hSA1, hsb, c0, c1⟩ := hSw.2.2.2.get hvl; injection hSA1 with hSA1; injection hSA1 with e1 e2; subst e1; subst e2; (have e3 : p = p' := (by have h1 := HP'.out; rw [HP.out] at h1; injection h1 with h1)); subst e3; simp only [Nat.zero_add] at c0 c1); go_simp; (try with_reducible rfl))
              try simp only [put_laws]
              refine wpAnyH_ready (rs := [8, 12]) (by kernel_rfl) (by simp) ?_
              refine AllReadyH.cons (by simp only [List.getElem?_toArray, List.getElem?_cons_succ, List.getElem?_cons_zero]; rfl) (fun K hK => ?f1_9_0) (AllReadyH.cons (by simp only [List.getElem?_toArray, List.getElem?_cons_succ, List.getElem?_cons_zero]; rfl) (fun K hK => ?f1_9_1) (AllReadyH.nil))
              case' f1_9_0 =>
                go_simp
                obtain ⟨r, hr⟩ : ∃ r, Hid (mayB W g p.1 p.2 = r) := ⟨_, rfl⟩; refine (specSlideDo_any W D k _ d g p.1 p.2 _ (HDc.out.hall S HOK2.out) hp1.1 hp1.2 r hr.out).mono ?_; rintro e wq ⟨G3, c3, rfl, hO3, hb3⟩; (try (have hG3N : G3 ≠ N := (by have h1 := hN.lt; have h2 := (hO3.lt G3 rfl).1; omega))); replace hO3 := Joins.ownsRow_le hO3 (base' := M + 1) (HDc.out.sm.lt); replace HDc := Lib.hid (HDc.out.below hb3); replace hSA9 := hSA9.below hb3; (try replace hN := hN.below hb3)
                refine hK.out _ _ ?_ (fun hHeld => ?_)
                · (try dsimp only); first | exact ⟨HDc.out.sm.cell 0, HDc.out.sm.cell 1, HDc.out.sm.cell 2, hSA9⟩ | exact ⟨hMX.cell 0, hMX.cell 1, hMX.cell 2, hSX⟩
                clear hK K
                try simp only [put_laws]
                refine wpAnyH_take (i := 9) (v := ?vq1_9_10) (by simp only [List.getElem?_toArray, List.getElem?_cons_succ, List.getElem?_cons_zero]; rfl) (by kernel_rfl) (by kernel_rfl) (by kernel_rfl) (by exact fun _ _ _ h => h) (Or.inl ⟨by rfl, ?hq1_9_10⟩) hHeld ?rq1_9_10
                case hq1_9_10 => (intro w hSw; (try dsimp only at hSw); go_simp; (try with_reducible rfl))
                try simp only [put_laws]
                refine wpAnyH_take (i := 10) (v := ?vq1_10_11) (by simp only [List.getElem?_toArray, List.getElem?_cons_succ, List.getElem?_cons_zero]; rfl) (by kernel_rfl) (by kernel_rfl) (by kernel_rfl) (by exact fun _ _ _ h => h) (Or.inl ⟨by rfl, ?hq1_10_11⟩) hHeld ?rq1_10_11
                case hq1_10_11 => (intro w hSw; (try dsimp only at hSw); go_simp; (try with_reducible rfl))
                try simp only [put_laws]
                refine wpAnyH_take (i := 11) (v := ?vq1_11_12) (by simp only [List.getElem?_toArray, List.getElem?_cons_succ, List.getElem?_cons_zero]; rfl) (by kernel_rfl) (by kernel_rfl) (by kernel_rfl) (by exact fun _ _ _ h => h) (Or.inl ⟨by rfl, ?hq1_11_12⟩) hHeld ?rq1_11_12
                case hq1_11_12 => (intro w hSw; (try dsimp only at hSw); go_simp; (try with_reducible rfl))
                try simp only [put_laws]
                refine wpAnyH_ready (rs := [12]) (by kernel_rfl) (by simp) ?_
                refine AllReadyH.cons (by simp only [List.getElem?_toArray, List.getElem?_cons_succ, List.getElem?_cons_zero]; rfl) (fun K hK => ?_) AllReadyH.nil
                go_simp
                obtain ⟨N, wn, hwn, hNn, HD', hS', hN, hMN, hSN', hbn⟩ := HDc.out.alloc hSA9; have hSN : SG < N := hSN' _ rfl hs0; clear hSN'; (first | rw [hwn, hNn] | rw [show (w9.alloc (.cells #[.int .i64 0, .int .i64 0, .slice none 0 0] 25)).drew = wn from hwn, show w9.heap.size = N from hNn]); (try (have hG3N : G3 ≠ N := (by have := hO3.lt G3 rfl; omega))); (try replace hO3 := own_keep hO3 hbn); clear HDc hSA9 hwn hNn hbn; have HDc := HD'; have hSA9 := hS'; clear HD' hS'
                refine hK.out _ _ ?_ (fun hHeld => ?_)
                · (try dsimp only); first | exact ⟨HDc.out.sm.cell 0, HDc.out.sm.cell 1, HDc.out.sm.cell 2, hSA9⟩ | exact ⟨hMX.cell 0, hMX.cell 1, hMX.cell 2, hSX⟩
                clear hK K
                try simp only [put_laws]
                refine wpAnyH_ready (rs := [13]) (by kernel_rfl) (by simp) ?_
                refine AllReadyH.cons (by simp only [List.getElem?_toArray, List.getElem?_cons_succ, List.getElem?_cons_zero]; rfl) (fun K hK => ?_) AllReadyH.nil
                go_simp
                have n0 := hN.cell 0; have n1 := hN.cell 1; have n2 := hN.cell 2; have z0 := hN.free 0; have z1 := hN.free 1; have z2 := hN.free 2; simp only [List.getElem?_cons_zero, List.getElem?_cons_succ] at n0 n1 n2; go_simp; have hMX := ((HDc.out.sm.far (p := ⟨N, 0, none⟩) (by show M ≠ N; omega) (.int .i64 W)).far (p := ⟨N, 1, none⟩) (by show M ≠ N; omega) (.int .i64 D)).far (p := ⟨N, 2, none⟩) (by show M ≠ N; omega) (.slice (some ⟨G3, 0, none⟩) k c3); have hSX := ((hSA9.far (p := ⟨N, 0, none⟩) (by show SG ≠ N; omega) (.int .i64 W)).far (p := ⟨N, 1, none⟩) (by show SG ≠ N; omega) (.int .i64 D)).far (p := ⟨N, 2, none⟩) (by show SG ≠ N; omega) (.slice (some ⟨G3, 0, none⟩) k c3)
                refine hK.out _ _ ?_ (fun hHeld => ?_)
                · (try dsimp only); first | exact ⟨HDc.out.sm.cell 0, HDc.out.sm.cell 1, HDc.out.sm.cell 2, hSA9⟩ | exact ⟨hMX.cell 0, hMX.cell 1, hMX.cell 2, hSX⟩
                clear hK K
                try simp only [put_laws]
                refine wpAnyH_take (i := 14) (v := ?vq1_14_15) (by simp only [List.getElem?_toArray, List.getElem?_cons_succ, List.getElem?_cons_zero]; rfl) (by kernel_rfl) (by kernel_rfl) (by kernel_rfl) (by exact fun _ _ _ h => h) (Or.inl ⟨by rfl, ?hq1_14_15⟩) hHeld ?rq1_14_15
                case hq1_14_15 => (intro w hSw; (try dsimp only at hSw); go_simp; (try with_reducible rfl))
                try simp only [put_laws]
                refine wpAnyH_done (by kernel_rfl) ?_ _
              case' f1_9_1 =>
                go_simp
                obtain ⟨N, wn, hwn, hNn, HD', hS', hN, hMN, hSN', hbn⟩ := HDc.out.alloc hSA9; have hSN : SG < N := hSN' _ rfl hs0; clear hSN'; (first | rw [hwn, hNn] | rw [show (w9.alloc (.cells #[.int .i64 0, .int .i64 0, .slice none 0 0] 25)).drew = wn from hwn, show w9.heap.size = N from hNn]); (try (have hG3N : G3 ≠ N := (by have := hO3.lt G3 rfl; omega))); (try replace hO3 := own_keep hO3 hbn); clear HDc hSA9 hwn hNn hbn; have HDc := HD'; have hSA9 := hS'; clear HD' hS'
                refine hK.out _ _ ?_ (fun hHeld => ?_)
                · (try dsimp only); first | exact ⟨HDc.out.sm.cell 0, HDc.out.sm.cell 1, HDc.out.sm.cell 2, hSA9⟩ | exact ⟨hMX.cell 0, hMX.cell 1, hMX.cell 2, hSX⟩
                clear hK K
                try simp only [put_laws]
                refine wpAnyH_ready (rs := [8]) (by kernel_rfl) (by simp) ?_
                refine AllReadyH.cons (by simp only [List.getElem?_toArray, List.getElem?_cons_succ, List.getElem?_cons_zero]; rfl) (fun K hK => ?_) AllReadyH.nil
                go_simp
                obtain ⟨r, hr⟩ : ∃ r, Hid (mayB W g p.1 p.2 = r) := ⟨_, rfl⟩; refine (specSlideDo_any W D k _ d g p.1 p.2 _ (HDc.out.hall S HOK2.out) hp1.1 hp1.2 r hr.out).mono ?_; rintro e wq ⟨G3, c3, rfl, hO3, hb3⟩; (try (have hG3N : G3 ≠ N := (by have h1 := hN.lt; have h2 := (hO3.lt G3 rfl).1; omega))); replace hO3 := Joins.ownsRow_le hO3 (base' := M + 1) (HDc.out.sm.lt); replace HDc := Lib.hid (HDc.out.below hb3); replace hSA9 := hSA9.below hb3; (try replace hN := hN.below hb3)
                refine hK.out _ _ ?_ (fun hHeld => ?_)
                · (try dsimp only); first | exact ⟨HDc.out.sm.cell 0, HDc.out.sm.cell 1, HDc.out.sm.cell 2, hSA9⟩ | exact ⟨hMX.cell 0, hMX.cell 1, hMX.cell 2, hSX⟩
                clear hK K
                try simp only [put_laws]
                refine wpAnyH_take (i := 9) (v := ?vq1_9_17) (by simp only [List.getElem?_toArray, List.getElem?_cons_succ, List.getElem?_cons_zero]; rfl) (by kernel_rfl) (by kernel_rfl) (by kernel_rfl) (by exact fun _ _ _ h => h) (Or.inl ⟨by rfl, ?hq1_9_17⟩) hHeld ?rq1_9_17
                case hq1_9_17 => (intro w hSw; (try dsimp only at hSw); go_simp; (try with_reducible rfl))
                try simp only [put_laws]
                refine wpAnyH_take (i := 10) (v := ?vq1_10_18) (by simp only [List.getElem?_toArray, List.getElem?_cons_succ, List.getElem?_cons_zero]; rfl) (by kernel_rfl) (by kernel_rfl) (by kernel_rfl) (by exact fun _ _ _ h => h) (Or.inl ⟨by rfl, ?hq1_10_18⟩) hHeld ?rq1_10_18
                case hq1_10_18 => (intro w hSw; (try dsimp only at hSw); go_simp; (try with_reducible rfl))
                try simp only [put_laws]
                refine wpAnyH_take (i := 11) (v := ?vq1_11_19) (by simp only [List.getElem?_toArray, List.getElem?_cons_succ, List.getElem?_cons_zero]; rfl) (by kernel_rfl) (by kernel_rfl) (by kernel_rfl) (by exact fun _ _ _ h => h) (Or.inl ⟨by rfl, ?hq1_11_19⟩) hHeld ?rq1_11_19
                case hq1_11_19 => (intro w hSw; (try dsimp only at hSw); go_simp; (try with_reducible rfl))
                try simp only [put_laws]
                refine wpAnyH_ready (rs := [13]) (by kernel_rfl) (by simp) ?_
                refine AllReadyH.cons (by simp only [List.getElem?_toArray, List.getElem?_cons_succ, List.getElem?_cons_zero]; rfl) (fun K hK => ?_) AllReadyH.nil
                go_simp
                have n0 := hN.cell 0; have n1 := hN.cell 1; have n2 := hN.cell 2; have z0 := hN.free 0; have z1 := hN.free 1; have z2 := hN.free 2; simp only [List.getElem?_cons_zero, List.getElem?_cons_succ] at n0 n1 n2; go_simp; have hMX := ((HDc.out.sm.far (p := ⟨N, 0, none⟩) (by show M ≠ N; omega) (.int .i64 W)).far (p := ⟨N, 1, none⟩) (by show M ≠ N; omega) (.int .i64 D)).far (p := ⟨N, 2, none⟩) (by show M ≠ N; omega) (.slice (some ⟨G3, 0, none⟩) k c3); have hSX := ((hSA9.far (p := ⟨N, 0, none⟩) (by show SG ≠ N; omega) (.int .i64 W)).far (p := ⟨N, 1, none⟩) (by show SG ≠ N; omega) (.int .i64 D)).far (p := ⟨N, 2, none⟩) (by show SG ≠ N; omega) (.slice (some ⟨G3, 0, none⟩) k c3)
                refine hK.out _ _ ?_ (fun hHeld => ?_)
                · (try dsimp only); first | exact ⟨HDc.out.sm.cell 0, HDc.out.sm.cell 1, HDc.out.sm.cell 2, hSA9⟩ | exact ⟨hMX.cell 0, hMX.cell 1, hMX.cell 2, hSX⟩
                clear hK K
                try simp only [put_laws]
                refine wpAnyH_take (i := 14) (v := ?vq1_14_21) (by simp only [List.getElem?_toArray, List.getElem?_cons_succ, List.getElem?_cons_zero]; rfl) (by kernel_rfl) (by kernel_rfl) (by kernel_rfl) (by exact fun _ _ _ h => h) (Or.inl ⟨by rfl, ?hq1_14_21⟩) hHeld ?rq1_14_21
                case hq1_14_21 => (intro w hSw; (try dsimp only at hSw); go_simp; (try with_reducible rfl))
                try simp only [put_laws]
                refine wpAnyH_done (by kernel_rfl) ?_ _
            case' f1_6_1 =>
              go_simp
              obtain ⟨N, wn, hwn, hNn, HD', hS', hN, hMN, hSN', hbn⟩ := HDc.out.alloc hSA9; have hSN : SG < N := hSN' _ rfl hs0; clear hSN'; (first | rw [hwn, hNn] | rw [show (w9.alloc (.cells #[.int .i64 0, .int .i64 0, .slice none 0 0] 25)).drew = wn from hwn, show w9.heap.size = N from hNn]); (try (have hG3N : G3 ≠ N := (by have := hO3.lt G3 rfl; omega))); (try replace hO3 := own_keep hO3 hbn); clear HDc hSA9 hwn hNn hbn; have HDc := HD'; have hSA9 := hS'; clear HD' hS'
              refine hK.out _ _ ?_ (fun hHeld => ?_)
              · (try dsimp only); first | exact ⟨HDc.out.sm.cell 0, HDc.out.sm.cell 1, HDc.out.sm.cell 2, hSA9⟩ | exact ⟨hMX.cell 0, hMX.cell 1, hMX.cell 2, hSX⟩
              clear hK K
              try simp only [put_laws]
              refine wpAnyH_ready (rs := [5]) (by kernel_rfl) (by simp) ?_
              refine AllReadyH.cons (by simp only [List.getElem?_toArray, List.getElem?_cons_succ, List.getElem?_cons_zero]; rfl) (fun K hK => ?_) AllReadyH.nil
              go_simp
              refine (pick_any w0 _ R A n c bs _ sm HDc.out.rd (by omega)).mono ?_; rintro e wp ⟨v, rfl, hv0, hv1, -, hRp, hfp⟩; replace HDc := Lib.hid (HDc.out.go hRp hfp); replace hSA9 := hSA9.fr1 hfp hSRl; (try replace hN := hN.fr1 hfp (by omega)); obtain ⟨v, rfl⟩ : ∃ v' : Nat, v = v' := ⟨v.toNat, by omega⟩; replace hv1 := hv1 (by omega); have hvl : v < sm := (by omega); obtain ⟨p, HP⟩ : ∃ p, Hid (sl[v]? = some p) := ⟨_, List.getElem?_eq_getElem (by omega)⟩; have hp1 : p.1 < k ∧ p.2 < k := HSL.out p (List.mem_of_getElem? HP.out)
              refine hK.out _ _ ?_ (fun hHeld => ?_)
              · (try dsimp only); first | exact ⟨HDc.out.sm.cell 0, HDc.out.sm.cell 1, HDc.out.sm.cell 2, hSA9⟩ | exact ⟨hMX.cell 0, hMX.cell 1, hMX.cell 2, hSX⟩
              clear hK K
              try simp only [put_laws]
              refine wpAnyH_take (i := 6) (v := ?vq1_6_23) (by simp only [List.getElem?_toArray, List.getElem?_cons_succ, List.getElem?_cons_zero]; rfl) (by kernel_rfl) (by kernel_rfl) (by kernel_rfl) (by exact fun _ _ _ h => h) (Or.inl ⟨by rfl, ?hq1_6_23⟩) hHeld ?rq1_6_23
              case hq1_6_23 => (intro w hSw; (try dsimp only at hSw); go_simp; (try with_reducible rfl))
              try simp only [put_laws]
              refine wpAnyH_take (i := 7) (v := ?vq1_7_24) (by simp only [List.getElem?_toArray, List.getElem?_cons_succ, List.getElem?_cons_zero]; rfl) (by kernel_rfl) (by kernel_rfl) (by kernel_rfl) (by exact fun _ _ _ h => h) (Or.inl ⟨by rfl, ?hq1_7_24⟩) hHeld ?rq1_7_24
              case hq1_7_24 => (intro w hSw; (try dsimp only at hSw); (obtain ⟨p', sb, soff, HP', hSA1, hsb, c0, c1⟩ := hSw.2.2.2.get hvl; injection hSA1 with hSA1; injection hSA1 with e1 e2; subst e1; subst e2; (have e3 : p = p' := (by have h1 := HP'.out; rw [HP.out] at h1; injection h1 with h1)); subst e3; simp only [Nat.zero_add] at c0 c1); go_simp; (try with_reducible rfl))
              try simp only [put_laws]
              refine wpAnyH_ready (rs := [8]) (by kernel_rfl) (by simp) ?_
              refine AllReadyH.cons (by simp only [List.getElem?_toArray, List.getElem?_cons_succ, List.getElem?_cons_zero]; rfl) (fun K hK => ?_) AllReadyH.nil
              go_simp
              obtain ⟨r, hr⟩ : ∃ r, Hid (mayB W g p.1 p.2 = r) := ⟨_, rfl⟩; refine (specSlideDo_any W D k _ d g p.1 p.2 _ (HDc.out.hall S HOK2.out) hp1.1 hp1.2 r hr.out).mono ?_; rintro e wq ⟨G3, c3, rfl, hO3, hb3⟩; (try (have hG3N : G3 ≠ N := (by have h1 := hN.lt; have h2 := (hO3.lt G3 rfl).1; omega))); replace hO3 := Joins.ownsRow_le hO3 (base' := M + 1) (HDc.out.sm.lt); replace HDc := Lib.hid (HDc.out.below hb3); replace hSA9 := hSA9.below hb3; (try replace hN := hN.below hb3)
              refine hK.out _ _ ?_ (fun hHeld => ?_)
              · (try dsimp only); first | exact ⟨HDc.out.sm.cell 0, HDc.out.sm.cell 1, HDc.out.sm.cell 2, hSA9⟩ | exact ⟨hMX.cell 0, hMX.cell 1, hMX.cell 2, hSX⟩
              clear hK K
              try simp only [put_laws]
              refine wpAnyH_take (i := 9) (v := ?vq1_9_26) (by simp only [List.getElem?_toArray, List.getElem?_cons_succ, List.getElem?_cons_zero]; rfl) (by kernel_rfl) (by kernel_rfl) (by kernel_rfl) (by exact fun _ _ _ h => h) (Or.inl ⟨by rfl, ?hq1_9_26⟩) hHeld ?rq1_9_26
              case hq1_9_26 => (intro w hSw; (try dsimp only at hSw); go_simp; (try with_reducible rfl))
              try simp only [put_laws]
              refine wpAnyH_take (i := 10) (v := ?vq1_10_27) (by simp only [List.getElem?_toArray, List.getElem?_cons_succ, List.getElem?_cons_zero]; rfl) (by kernel_rfl) (by kernel_rfl) (by kernel_rfl) (by exact fun _ _ _ h => h) (Or.inl ⟨by rfl, ?hq1_10_27⟩) hHeld ?rq1_10_27
              case hq1_10_27 => (intro w hSw; (try dsimp only at hSw); go_simp; (try with_reducible rfl))
              try simp only [put_laws]
              refine wpAnyH_take (i := 11) (v := ?vq1_11_28) (by simp only [List.getElem?_toArray, List.getElem?_cons_succ, List.getElem?_cons_zero]; rfl) (by kernel_rfl) (by kernel_rfl) (by kernel_rfl) (by exact fun _ _ _ h => h) (Or.inl ⟨by rfl, ?hq1_11_28⟩) hHeld ?rq1_11_28
              case hq1_11_28 => (intro w hSw; (try dsimp only at hSw); go_simp; (try with_reducible rfl))
              try simp only [put_laws]
              refine wpAnyH_ready (rs := [13]) (by kernel_rfl) (by simp) ?_
              refine AllReadyH.cons (by simp only [List.getElem?_toArray, List.getElem?_cons_succ, List.getElem?_cons_zero]; rfl) (fun K hK => ?_) AllReadyH.nil
              go_simp
              have n0 := hN.cell 0; have n1 := hN.cell 1; have n2 := hN.cell 2; have z0 := hN.free 0; have z1 := hN.free 1; have z2 := hN.free 2; simp only [List.getElem?_cons_zero, List.getElem?_cons_succ] at n0 n1 n2; go_simp; have hMX := ((HDc.out.sm.far (p := ⟨N, 0, none⟩) (by show M ≠ N; omega) (.int .i64 W)).far (p := ⟨N, 1, none⟩) (by show M ≠ N; omega) (.int .i64 D)).far (p := ⟨N, 2, none⟩) (by show M ≠ N; omega) (.slice (some ⟨G3, 0, none⟩) k c3); have hSX := ((hSA9.far (p := ⟨N, 0, none⟩) (by show SG ≠ N; omega) (.int .i64 W)).far (p := ⟨N, 1, none⟩) (by show SG ≠ N; omega) (.int .i64 D)).far (p := ⟨N, 2, none⟩) (by show SG ≠ N; omega) (.slice (some ⟨G3, 0, none⟩) k c3)
              refine hK.out _ _ ?_ (fun hHeld => ?_)
              · (try dsimp only); first | exact ⟨HDc.out.sm.cell 0, HDc.out.sm.cell 1, HDc.out.sm.cell 2, hSA9⟩ | exact ⟨hMX.cell 0, hMX.cell 1, hMX.cell 2, hSX⟩
              clear hK K
              try simp only [put_laws]
              refine wpAnyH_take (i := 14) (v := ?vq1_14_30) (by simp only [List.getElem?_toArray, List.getElem?_cons_succ, List.getElem?_cons_zero]; rfl) (by kernel_rfl) (by kernel_rfl) (by kernel_rfl) (by exact fun _ _ _ h => h) (Or.inl ⟨by rfl, ?hq1_14_30⟩) hHeld ?rq1_14_30
              case hq1_14_30 => (intro w hSw; (try dsimp only at hSw); go_simp; (try with_reducible rfl))
              try simp only [put_laws]
              refine wpAnyH_done (by kernel_rfl) ?_ _
            all_goals
              have hDS := Lib.hid ((HDc.out.slid (g3 := slid W g p.1 p.2) hMN hO3 hG3N).more (show J2 + (t - l) + 1 ≤ J2 + (t - (l - 1)) by omega))
              have HOK3 := Lib.hid (slid_ok (p := p.1) (q := p.2) HGL.out hp1.1 hp1.2 HOK2.out)
              have f0 := HDc.out.sm.free 0
              have f1 := HDc.out.sm.free 1
              have f2 := HDc.out.sm.free 2
              have b0 := HDc.out.sm.cell 0
              have b1 := HDc.out.sm.cell 1
              have b2 := HDc.out.sm.cell 2
              simp only [List.getElem?_cons_zero, List.getElem?_cons_succ] at b0 b1 b2
              have hMN2 : N ≠ M := by omega
              clear hMX hSX hHeld m0 m1 m2 hSA9 HDc hN hO3
              go_wp2
              go_roundw
              case rel => exact ⟨l - 1, G3, c3, _, by omega, by go_num, HOK3, hDS⟩
              case measure => simp [intOf]; omega
          · obtain rfl : sm = 0 := by omega
            go_wp2
            go_roundw
            case rel => exact ⟨l - 1, G, d, g, by omega, by go_num, HOK2, Lib.hid (HD9.out.more (by omega))⟩
            case measure => simp [intOf]; omega
        · obtain rfl : l = 0 := by omega
          go_wp2_with fail
          refine (odd_any w0 _ R A n c bs _ q HD.out.rd (by omega) (by omega) hq).mono ?_; rintro e wo ⟨v, rfl, -, hRo, hfo⟩
          have HDo := Lib.hid (HD.out.go hRo hfo)
          obtain ⟨J3, hJ3'⟩ : ∃ J3, Hid (J3 = J2 + (t - 0) + 1) := ⟨_, rfl⟩
          have hJ4 : J3 ≤ J + 40 := by rw [hJ3'.out]; omega
          rw [← hJ3'.out] at HDo
          clear HD hRo hfo
          cases v
          · skip
            have m0 := HDo.out.sm.cell 0
            have m1 := HDo.out.sm.cell 1
            have m2 := HDo.out.sm.cell 2
            have q0 := HDo.out.sq.cell 0
            have q1 := HDo.out.sq.cell 1
            have q2 := HDo.out.sq.cell 2
            have z0 := HDo.out.sq.free 0
            have z1 := HDo.out.sq.free 1
            have z2 := HDo.out.sq.free 2
            simp only [List.getElem?_cons_zero, List.getElem?_cons_succ] at m0 m1 m2 q0 q1 q2
            obtain ⟨hQz, hDz⟩ := HDo.out.fin (K' := J + 100) (by omega) (by omega) (by omega)
            go_wp2
            generalize (((wo.setCell ⟨Q, 0, none⟩ (.int .i64 W)).setCell ⟨Q, 1, none⟩ (.int .i64 D)).setCell ⟨Q, 2, none⟩ (.slice (some ⟨G, 0, none⟩) k d)) = wz at *
            have e0 : wz.cell? ⟨Q, 0, none⟩ = some (.int .i64 W) := hQz.cell 0
            have e1 : wz.cell? ⟨Q, 1, none⟩ = some (.int .i64 D) := hQz.cell 1
            have e2 : wz.cell? ⟨Q, 2, none⟩ = some (.slice (some ⟨G, 0, none⟩) k d) := hQz.cell 2
            exact bodyPost_ret (v := .agg #[.int .i64 W, .int .i64 D, .slice (some ⟨G, 0, none⟩) k d]) (by simp [results, Tryz.results30, go_sem, e0, e1, e2]) rfl hDz
          · go_wp2_with fail
            refine (pick_any w0 _ R A n c bs _ 4 HDo.out.rd (by omega)).mono ?_; rintro e ws ⟨x, rfl, hx0, hx1, -, hRs, hfs⟩
            have HDs := Lib.hid (HDo.out.go hRs hfs)
            replace hx1 := hx1 (by omega)
            clear HDo hRs hfs
            obtain rfl | rfl | rfl | rfl : x = 0 ∨ x = 1 ∨ x = 2 ∨ x = 3 := by omega
            · clear hx0 hx1
              have hbs : ∀ w : World, (Instr.buildSlice 23 2 #[(0, .int .i64 1), (1, .int .i64 5)]).run Tryz.prog w = .ok (.slice (some ⟨w.heap.size, 0, none⟩) 2 2) (w.alloc (.cells #[.int .i64 1, .int .i64 5] 3)) := fun _ => by kernel_rfl
              have hbA : Below ws.heap.size ws (ws.alloc (.cells #[.int .i64 1, .int .i64 5] 3)) := (Below.refl _ _).alloc (Nat.le_refl _) _
              have hNA : Whole (ws.alloc (.cells #[.int .i64 1, .int .i64 5] 3)) ws.heap.size 3 [.int .i64 1, .int .i64 5] := Whole.new ws _ _
              go_wp2_with fail
              have HDt := Lib.hid (HDs.out.below hbA)
              have hRN : ws.heap.size ≠ R := by have := HDs.out.rd.lt; omega
              have hMN : M < ws.heap.size := HDs.out.sm.lt
              generalize ws.alloc (.cells #[.int .i64 1, .int .i64 5] 3) = wt at *
              obtain ⟨N, hNn⟩ : ∃ N, Hid (N = ws.heap.size) := ⟨_, rfl⟩
              rw [← hNn.out] at hNA hRN hMN ⊢
              clear HDs hbA hbs
              refine (pick_any w0 _ R A n c bs _ 2 HDt.out.rd (by omega)).mono ?_; rintro e wu ⟨x, rfl, hx0, hx1, -, hRs, hfs⟩
              have HDu := Lib.hid (HDt.out.go hRs hfs)
              replace hNA := hNA.fr1 hfs hRN
              replace hx1 := hx1 (by omega)
              clear HDt hRs hfs
              obtain ⟨x, rfl⟩ : ∃ x' : Nat, x = x' := ⟨x.toNat, by omega⟩
              obtain ⟨y, hy⟩ : ∃ y : Int, wu.cell? ⟨N, x, none⟩ = some (.int .i64 y) := by
                have : x = 0 ∨ x = 1 := by omega
                rcases this with rfl | rfl
                · exact ⟨1, hNA.cell 0⟩
                · exact ⟨5, hNA.cell 1⟩
              have m0' := HDu.out.sm.cell 0
              have f0 := HDu.out.sm.free 0
              simp only [List.getElem?_cons_zero] at m0'
              have HDv := Lib.hid (HDu.out.wide y)
              go_upto_region 27 with fail
              generalize wu.setCell ⟨M, 0, none⟩ (.int .i64 y) = wv at *
              clear m0' f0 HDu hy
              have m0 := HDv.out.sm.cell 0
              have m1 := HDv.out.sm.cell 1
              have m2 := HDv.out.sm.cell 2
              have q0 := HDv.out.sq.cell 0
              have q1 := HDv.out.sq.cell 1
              have q2 := HDv.out.sq.cell 2
              have z0 := HDv.out.sq.free 0
              have z1 := HDv.out.sq.free 1
              have z2 := HDv.out.sq.free 2
              simp only [List.getElem?_cons_zero, List.getElem?_cons_succ] at m0 m1 m2 q0 q1 q2
              obtain ⟨hQz, hDz⟩ := HDv.out.fin (K' := J + 100) (by omega) (by omega) (by omega)
              go_wp2
              generalize (((wv.setCell ⟨Q, 0, none⟩ (.int .i64 y)).setCell ⟨Q, 1, none⟩ (.int .i64 D)).setCell ⟨Q, 2, none⟩ (.slice (some ⟨G, 0, none⟩) k d)) = wz at *
              have e0 : wz.cell? ⟨Q, 0, none⟩ = some (.int .i64 y) := hQz.cell 0
              have e1 : wz.cell? ⟨Q, 1, none⟩ = some (.int .i64 D) := hQz.cell 1
              have e2 : wz.cell? ⟨Q, 2, none⟩ = some (.slice (some ⟨G, 0, none⟩) k d) := hQz.cell 2
              exact bodyPost_ret (v := .agg #[.int .i64 y, .int .i64 D, .slice (some ⟨G, 0, none⟩) k d]) (by simp [results, Tryz.results30, go_sem, e0, e1, e2]) rfl hDz
            · clear hx0 hx1
              have hbs : ∀ w : World, (Instr.buildSlice 23 1 #[(0, .int .i64 0)]).run Tryz.prog w = .ok (.slice (some ⟨w.heap.size, 0, none⟩) 1 1) (w.alloc (.cells #[.int .i64 0] 3)) := fun _ => by kernel_rfl
              have m2' := HDs.out.sm.cell 2
              simp only [List.getElem?_cons_zero, List.getElem?_cons_succ] at m2'
              have hws : w.heap.size ≤ ws.heap.size := HDs.out.fr.size
              go_upto_region 27 with (at_builtin; (refine wpList_moreH (base := w.heap.size) rfl (.tmp 90) (.tmp 91) rfl hws HDs.out.own 0 rfl rfl (by omega) ?_; intro g' c' wt hOt hgt hGt; obtain ⟨HDv', hMv⟩ := HDs.out.grow hgt hOt hGt; have m2'' := hMv.cell 2; have f2'' := hMv.free 2; simp only [List.getElem?_cons_zero, List.getElem?_cons_succ] at m2''; have HDv := Lib.hid HDv'; clear HDv' hMv hOt hgt hGt))
              generalize wt.setCell ⟨M, 2, none⟩ (.slice (some ⟨g', 0, none⟩) (k + 1) c') = wv at *
              clear m2' m2'' f2'' HDs
              have m0 := HDv.out.sm.cell 0
              have m1 := HDv.out.sm.cell 1
              have m2 := HDv.out.sm.cell 2
              have q0 := HDv.out.sq.cell 0
              have q1 := HDv.out.sq.cell 1
              have q2 := HDv.out.sq.cell 2
              have z0 := HDv.out.sq.free 0
              have z1 := HDv.out.sq.free 1
              have z2 := HDv.out.sq.free 2
              simp only [List.getElem?_cons_zero, List.getElem?_cons_succ] at m0 m1 m2 q0 q1 q2
              obtain ⟨hQz, hDz⟩ := HDv.out.fin (K' := J + 100) (by omega) (by omega) (by omega)
              go_wp2
              generalize (((wv.setCell ⟨Q, 0, none⟩ (.int .i64 W)).setCell ⟨Q, 1, none⟩ (.int .i64 D)).setCell ⟨Q, 2, none⟩ (.slice (some ⟨g', 0, none⟩) (k + 1) c')) = wz at *
              have e0 : wz.cell? ⟨Q, 0, none⟩ = some (.int .i64 W) := hQz.cell 0
              have e1 : wz.cell? ⟨Q, 1, none⟩ = some (.int .i64 D) := hQz.cell 1
              have e2 : wz.cell? ⟨Q, 2, none⟩ = some (.slice (some ⟨g', 0, none⟩) (k + 1) c') := hQz.cell 2
              exact bodyPost_ret (v := .agg #[.int .i64 W, .int .i64 D, .slice (some ⟨g', 0, none⟩) (k + 1) c']) (by simp [results, Tryz.results30, go_sem, e0, e1, e2]) rfl hDz
            · clear hx0 hx1
              have hbs : ∀ w : World, (Instr.buildSlice 23 2 #[(0, .int .i64 (-1)), (1, .int .i64 100)]).run Tryz.prog w = .ok (.slice (some ⟨w.heap.size, 0, none⟩) 2 2) (w.alloc (.cells #[.int .i64 (-1), .int .i64 100] 3)) := fun _ => by kernel_rfl
              have HDc := Lib.hid (HDs.out.below (Below.refl _ _).drew)
              have hk0 : 0 < k := by omega
              clear HDs
              go_upto_region 26 with fail
              refine wp_region_held_drew (S := (fun w' => w'.cell? ⟨M, 2, none⟩ = some (.slice (some ⟨G, 0, none⟩) k d))) (by kernel_rfl) ?_ (fun hHeld => ?_)
              · (try dsimp only); first | exact HDc.out.sm.cell 2 | exact hMX.cell 2
              refine wpAnyH_take (i := 0) (v := ?vq2_0_1) (by simp only [List.getElem?_toArray, List.getElem?_cons_zero]; rfl) (by kernel_rfl) (by kernel_rfl) (by kernel_rfl) (by exact fun _ _ _ h => h) (Or.inl ⟨by rfl, ?hq2_0_1⟩) hHeld ?rq2_0_1
              case hq2_0_1 => (intro w hSw; (try dsimp only at hSw); go_simp; (try with_reducible rfl))
              try simp only [put_laws]
              refine wpAnyH_take (i := 1) (v := ?vq2_1_2) (by simp only [List.getElem?_toArray, List.getElem?_cons_succ, List.getElem?_cons_zero]; rfl) (by kernel_rfl) (by kernel_rfl) (by kernel_rfl) (by exact fun _ _ _ h => h) (Or.inl ⟨by rfl, ?hq2_1_2⟩) hHeld ?rq2_1_2
              case hq2_1_2 => (intro w hSw; (try dsimp only at hSw); go_simp; (try with_reducible rfl))
              try simp only [put_laws]
              refine wpAnyH_take (i := 3) (v := ?vq2_3_3) (by simp only [List.getElem?_toArray, List.getElem?_cons_succ, List.getElem?_cons_zero]; rfl) (by kernel_rfl) (by kernel_rfl) (by kernel_rfl) (by exact fun _ _ _ h => h) (Or.inl ⟨by rfl, ?hq2_3_3⟩) hHeld ?rq2_3_3
              case hq2_3_3 => (intro w hSw; (try dsimp only at hSw); go_simp; (try with_reducible rfl))
              try simp only [put_laws]
              refine wpAnyH_ready (rs := [2, 4]) (by kernel_rfl) (by simp) ?_
              refine AllReadyH.cons (by simp only [List.getElem?_toArray, List.getElem?_cons_succ, List.getElem?_cons_zero]; rfl) (fun K hK => ?f2_4_0) (AllReadyH.cons (by simp only [List.getElem?_toArray, List.getElem?_cons_succ, List.getElem?_cons_zero]; rfl) (fun K hK => ?f2_4_1) (AllReadyH.nil))
              case' f2_4_0 =>
                go_simp
                obtain ⟨N, wn, hwn, hNn, HD', hN, hMN⟩ := HDc.out.alloc2; (first | rw [hwn, hNn] | rw [show (ws.alloc (.cells #[.int .i64 (-1), .int .i64 100] 3)).drew = wn from hwn, show ws.heap.size = N from hNn]); clear HDc hwn hNn; have HDc := HD'; clear HD'
                refine hK.out _ _ ?_ (fun hHeld => ?_)
                · (try dsimp only); first | exact HDc.out.sm.cell 2 | exact hMX.cell 2
                clear hK K
                try simp only [put_laws]
                refine wpAnyH_ready (rs := [4]) (by kernel_rfl) (by simp) ?_
                refine AllReadyH.cons (by simp only [List.getElem?_toArray, List.getElem?_cons_succ, List.getElem?_cons_zero]; rfl) (fun K hK => ?_) AllReadyH.nil
                go_simp
                refine (pick_any w0 _ R A n c bs _ 2 HDc.out.rd (by omega)).mono ?_; rintro e wp ⟨x, rfl, hx0, hx1, -, hRp, hfp⟩; replace HDc := Lib.hid (HDc.out.go hRp hfp); (try replace hN := hN.fr1 hfp (by omega)); obtain ⟨x, rfl⟩ : ∃ x' : Nat, x = x' := ⟨x.toNat, by omega⟩; replace hx1 := hx1 (by omega)
                refine hK.out _ _ ?_ (fun hHeld => ?_)
                · (try dsimp only); first | exact HDc.out.sm.cell 2 | exact hMX.cell 2
                clear hK K
                try simp only [put_laws]
                refine wpAnyH_take (i := 5) (v := ?vq2_5_6) (by simp only [List.getElem?_toArray, List.getElem?_cons_succ, List.getElem?_cons_zero]; rfl) (by kernel_rfl) (by kernel_rfl) (by kernel_rfl) (by exact fun _ _ _ h => h) (Or.inl ⟨by rfl, ?hq2_5_6⟩) hHeld ?rq2_5_6
                case hq2_5_6 => (intro w hSw; (try dsimp only at hSw); go_simp; (try with_reducible rfl))
                try simp only [put_laws]
                obtain ⟨y, hy⟩ : ∃ y : Int, wp.cell? ⟨N, x, none⟩ = some (.int .i64 y) := (by have : x = 0 ∨ x = 1 := (by omega); rcases this with rfl | rfl; exact ⟨-1, hN.cell 0⟩; exact ⟨100, hN.cell 1⟩)
                refine wpAnyH_ready (rs := [6]) (by kernel_rfl) (by simp) ?_
                refine AllReadyH.cons (by simp only [List.getElem?_toArray, List.getElem?_cons_succ, List.getElem?_cons_zero]; rfl) (fun K hK => ?_) AllReadyH.nil
                go_simp
                skip
                refine hK.out _ _ ?_ (fun hHeld => ?_)
                · (try dsimp only); first | exact HDc.out.sm.cell 2 | exact hMX.cell 2
                clear hK K
                try simp only [put_laws]
                refine wpAnyH_take (i := 7) (v := ?vq2_7_8) (by simp only [List.getElem?_toArray, List.getElem?_cons_succ, List.getElem?_cons_zero]; rfl) (by kernel_rfl) (by kernel_rfl) (by kernel_rfl) (by exact fun _ _ _ h => h) (Or.inl ⟨by rfl, ?hq2_7_8⟩) hHeld ?rq2_7_8
                case hq2_7_8 => (intro w hSw; (try dsimp only at hSw); go_simp; (try with_reducible rfl))
                try simp only [put_laws]
                obtain ⟨⟨u, hu⟩, hfz, hwG, hGl⟩ := own_cell (i := 0) HDc.out.own (by omega); have HDv := Lib.hid (HDc.out.put 0 y); have hMX := HDv.out.sm
                refine wpAnyH_ready (rs := [8]) (by kernel_rfl) (by simp) ?_
                refine AllReadyH.cons (by simp only [List.getElem?_toArray, List.getElem?_cons_succ, List.getElem?_cons_zero]; rfl) (fun K hK => ?_) AllReadyH.nil
                go_simp
                skip
                refine hK.out _ _ ?_ (fun hHeld => ?_)
                · (try dsimp only); first | exact HDc.out.sm.cell 2 | exact hMX.cell 2
                clear hK K
                try simp only [put_laws]
                refine wpAnyH_done (by kernel_rfl) ?_ _
              case' f2_4_1 =>
                go_simp
                refine (pick_any w0 _ R A n c bs _ 2 HDc.out.rd (by omega)).mono ?_; rintro e wp ⟨x, rfl, hx0, hx1, -, hRp, hfp⟩; replace HDc := Lib.hid (HDc.out.go hRp hfp); (try replace hN := hN.fr1 hfp (by omega)); obtain ⟨x, rfl⟩ : ∃ x' : Nat, x = x' := ⟨x.toNat, by omega⟩; replace hx1 := hx1 (by omega)
                refine hK.out _ _ ?_ (fun hHeld => ?_)
                · (try dsimp only); first | exact HDc.out.sm.cell 2 | exact hMX.cell 2
                clear hK K
                try simp only [put_laws]
                refine wpAnyH_ready (rs := [2]) (by kernel_rfl) (by simp) ?_
                refine AllReadyH.cons (by simp only [List.getElem?_toArray, List.getElem?_cons_succ, List.getElem?_cons_zero]; rfl) (fun K hK => ?_) AllReadyH.nil
                go_simp
                obtain ⟨N, wn, hwn, hNn, HD', hN, hMN⟩ := HDc.out.alloc2; (first | rw [hwn, hNn] | rw [show (ws.alloc (.cells #[.int .i64 (-1), .int .i64 100] 3)).drew = wn from hwn, show ws.heap.size = N from hNn]); clear HDc hwn hNn; have HDc := HD'; clear HD'
                refine hK.out _ _ ?_ (fun hHeld => ?_)
                · (try dsimp only); first | exact HDc.out.sm.cell 2 | exact hMX.cell 2
                clear hK K
                try simp only [put_laws]
                refine wpAnyH_take (i := 5) (v := ?vq2_5_11) (by simp only [List.getElem?_toArray, List.getElem?_cons_succ, List.getElem?_cons_zero]; rfl) (by kernel_rfl) (by kernel_rfl) (by kernel_rfl) (by exact fun _ _ _ h => h) (Or.inl ⟨by rfl, ?hq2_5_11⟩) hHeld ?rq2_5_11
                case hq2_5_11 => (intro w hSw; (try dsimp only at hSw); go_simp; (try with_reducible rfl))
                try simp only [put_laws]
                obtain ⟨y, hy⟩ : ∃ y : Int, wn.cell? ⟨N, x, none⟩ = some (.int .i64 y) := (by have : x = 0 ∨ x = 1 := (by omega); rcases this with rfl | rfl; exact ⟨-1, hN.cell 0⟩; exact ⟨100, hN.cell 1⟩)
                refine wpAnyH_ready (rs := [6]) (by kernel_rfl) (by simp) ?_
                refine AllReadyH.cons (by simp only [List.getElem?_toArray, List.getElem?_cons_succ, List.getElem?_cons_zero]; rfl) (fun K hK => ?_) AllReadyH.nil
                go_simp
                skip
                refine hK.out _ _ ?_ (fun hHeld => ?_)
                · (try dsimp only); first | exact HDc.out.sm.cell 2 | exact hMX.cell 2
                clear hK K
                try simp only [put_laws]
                refine wpAnyH_take (i := 7) (v := ?vq2_7_13) (by simp only [List.getElem?_toArray, List.getElem?_cons_succ, List.getElem?_cons_zero]; rfl) (by kernel_rfl) (by kernel_rfl) (by kernel_rfl) (by exact fun _ _ _ h => h) (Or.inl ⟨by rfl, ?hq2_7_13⟩) hHeld ?rq2_7_13
                case hq2_7_13 => (intro w hSw; (try dsimp only at hSw); go_simp; (try with_reducible rfl))
                try simp only [put_laws]
                obtain ⟨⟨u, hu⟩, hfz, hwG, hGl⟩ := own_cell (i := 0) HDc.out.own (by omega); have HDv := Lib.hid (HDc.out.put 0 y); have hMX := HDv.out.sm
                refine wpAnyH_ready (rs := [8]) (by kernel_rfl) (by simp) ?_
                refine AllReadyH.cons (by simp only [List.getElem?_toArray, List.getElem?_cons_succ, List.getElem?_cons_zero]; rfl) (fun K hK => ?_) AllReadyH.nil
                go_simp
                skip
                refine hK.out _ _ ?_ (fun hHeld => ?_)
                · (try dsimp only); first | exact HDc.out.sm.cell 2 | exact hMX.cell 2
                clear hK K
                try simp only [put_laws]
                refine wpAnyH_done (by kernel_rfl) ?_ _
              · generalize wn.setCell ⟨G, 0, none⟩ (.int .i64 y) = wv at *
                clear hu hfz hMX hHeld HDc hN hy
                have m0 := HDv.out.sm.cell 0
                have m1 := HDv.out.sm.cell 1
                have m2 := HDv.out.sm.cell 2
                have q0 := HDv.out.sq.cell 0
                have q1 := HDv.out.sq.cell 1
                have q2 := HDv.out.sq.cell 2
                have z0 := HDv.out.sq.free 0
                have z1 := HDv.out.sq.free 1
                have z2 := HDv.out.sq.free 2
                simp only [List.getElem?_cons_zero, List.getElem?_cons_succ] at m0 m1 m2 q0 q1 q2
                obtain ⟨hQz, hDz⟩ := HDv.out.fin (K' := J + 100) (by omega) (by omega) (by omega)
                go_wp2
                generalize (((wv.setCell ⟨Q, 0, none⟩ (.int .i64 W)).setCell ⟨Q, 1, none⟩ (.int .i64 D)).setCell ⟨Q, 2, none⟩ (.slice (some ⟨G, 0, none⟩) k d)) = wz at *
                have e0 : wz.cell? ⟨Q, 0, none⟩ = some (.int .i64 W) := hQz.cell 0
                have e1 : wz.cell? ⟨Q, 1, none⟩ = some (.int .i64 D) := hQz.cell 1
                have e2 : wz.cell? ⟨Q, 2, none⟩ = some (.slice (some ⟨G, 0, none⟩) k d) := hQz.cell 2
                exact bodyPost_ret (v := .agg #[.int .i64 W, .int .i64 D, .slice (some ⟨G, 0, none⟩) k d]) (by simp [results, Tryz.results30, go_sem, e0, e1, e2]) rfl hDz
              · generalize wp.setCell ⟨G, 0, none⟩ (.int .i64 y) = wv at *
                clear hu hfz hMX hHeld HDc hN hy
                have m0 := HDv.out.sm.cell 0
                have m1 := HDv.out.sm.cell 1
                have m2 := HDv.out.sm.cell 2
                have q0 := HDv.out.sq.cell 0
                have q1 := HDv.out.sq.cell 1
                have q2 := HDv.out.sq.cell 2
                have z0 := HDv.out.sq.free 0
                have z1 := HDv.out.sq.free 1
                have z2 := HDv.out.sq.free 2
                simp only [List.getElem?_cons_zero, List.getElem?_cons_succ] at m0 m1 m2 q0 q1 q2
                obtain ⟨hQz, hDz⟩ := HDv.out.fin (K' := J + 100) (by omega) (by omega) (by omega)
                go_wp2
                generalize (((wv.setCell ⟨Q, 0, none⟩ (.int .i64 W)).setCell ⟨Q, 1, none⟩ (.int .i64 D)).setCell ⟨Q, 2, none⟩ (.slice (some ⟨G, 0, none⟩) k d)) = wz at *
                have e0 : wz.cell? ⟨Q, 0, none⟩ = some (.int .i64 W) := hQz.cell 0
                have e1 : wz.cell? ⟨Q, 1, none⟩ = some (.int .i64 D) := hQz.cell 1
                have e2 : wz.cell? ⟨Q, 2, none⟩ = some (.slice (some ⟨G, 0, none⟩) k d) := hQz.cell 2
                exact bodyPost_ret (v := .agg #[.int .i64 W, .int .i64 D, .slice (some ⟨G, 0, none⟩) k d]) (by simp [results, Tryz.results30, go_sem, e0, e1, e2]) rfl hDz
            · clear hx0 hx1
              have m2' := HDs.out.sm.cell 2
              simp only [List.getElem?_cons_zero, List.getElem?_cons_succ] at m2'
              obtain ⟨⟨u, hu⟩, hfz, hwG, hGl⟩ := own_cell (i := 0) HDs.out.own (by omega)
              have HDu := HDs.out.put 0 88
              have m2'' := HDu.sm.cell 2
              simp only [List.getElem?_cons_zero, List.getElem?_cons_succ] at m2''
              obtain ⟨⟨u1, hu1⟩, hfz1, -, -⟩ := own_cell (i := 1) HDu.own (by omega)
              have HDv := Lib.hid (HDu.put 1 88)
              clear HDu HDs
              go_upto_region 27 with fail
              generalize (ws.setCell ⟨G, 0, none⟩ (.int .i64 88)).setCell ⟨G, 1, none⟩ (.int .i64 88) = wv at *
              clear m2' m2'' hu hfz hu1 hfz1
              have m0 := HDv.out.sm.cell 0
              have m1 := HDv.out.sm.cell 1
              have m2 := HDv.out.sm.cell 2
              have q0 := HDv.out.sq.cell 0
              have q1 := HDv.out.sq.cell 1
              have q2 := HDv.out.sq.cell 2
              have z0 := HDv.out.sq.free 0
              have z1 := HDv.out.sq.free 1
              have z2 := HDv.out.sq.free 2
              simp only [List.getElem?_cons_zero, List.getElem?_cons_succ] at m0 m1 m2 q0 q1 q2
              obtain ⟨hQz, hDz⟩ := HDv.out.fin (K' := J + 100) (by omega) (by omega) (by omega)
              go_wp2
              generalize (((wv.setCell ⟨Q, 0, none⟩ (.int .i64 W)).setCell ⟨Q, 1, none⟩ (.int .i64 D)).setCell ⟨Q, 2, none⟩ (.slice (some ⟨G, 0, none⟩) k d)) = wz at *
              have e0 : wz.cell? ⟨Q, 0, none⟩ = some (.int .i64 W) := hQz.cell 0
              have e1 : wz.cell? ⟨Q, 1, none⟩ = some (.int .i64 D) := hQz.cell 1
              have e2 : wz.cell? ⟨Q, 2, none⟩ = some (.slice (some ⟨G, 0, none⟩) k d) := hQz.cell 2
              exact bodyPost_ret (v := .agg #[.int .i64 W, .int .i64 D, .slice (some ⟨G, 0, none⟩) k d]) (by simp [results, Tryz.results30, go_sem, e0, e1, e2]) rfl hDz
end Go.Proofs.YtdebjcempkgeaaaGreatDoor
