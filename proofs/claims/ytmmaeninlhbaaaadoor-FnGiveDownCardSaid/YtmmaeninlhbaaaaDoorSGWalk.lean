/-
  GiveDown of the reference: its walk.
-/
import Derived.Test.YtmmaeninlhbaaaaDoorSGDown
import Derived.BigRegion
import Derived.Deep.CutRange
namespace Go.Proofs.YtmmaeninlhbaaaaDoor
open Go.ChangeShapes Go.WideShapes Go.ChangeAt Go.RowKit

set_option maxRecDepth 100000 in
set_option maxHeartbeats 3000000 in
theorem specGiveDown_any (A : Option Addr) (n c : Nat) (cs : List C4) (P : Option Addr) (m pc : Nat) (ps : List P3) (w : World)
    (hn : n ≤ c ∧ c ≤ 9223372036854775807) (hx : CarsAt w A n cs) (hm : m ≤ 9223372036854775807) (hp : PlacesAt w P m ps) :
    Calls Tryd.prog 12 #[.slice A n c, .slice P m pc] w (OwnR w (giveDL cs ps)) := by
  have HNN := Lib.hid hx.len.symm
  have HM := Lib.hid hp.len
  have HN := Lib.hid hn
  have hbs : ∀ w : World, (Instr.buildSlice 27 0 #[]).run Tryd.prog w = .ok (.slice (some ⟨w.heap.size, 0, none⟩) 0 0) (w.alloc (.cells #[] 3)) := fun _ => by kernel_rfl
  have hO1 := own0 (base := w.heap.size) (w1 := w) (Nat.le_refl _)
  have hb1 : Below w.heap.size w (w.alloc (.cells #[] 3)) := (Below.refl _ _).alloc (Nat.le_refl _) _
  have hw1 : (w.alloc (.cells #[] 3)).heap.size = w.heap.size + 1 := by simp
  go_enter Tryd.func12, Tryd.ntmps12
  go_wp2_with fail
  generalize w.alloc (.cells #[] 3) = w1 at hO1 hb1 hw1 ⊢
  refine (specCarsValid_any A n c cs w1 HN.out (hx.below hb1)).mono ?_; rintro e w2 ⟨rfl, hb2⟩
  have hO2 := own_keep hO1 hb2
  have hB2 := below_next hb1 hb2
  cases hC : carsB cs
  · have HC := Lib.hid hC
    clear hC hO1 hb1 hb2 hw1
    go_wp2
    go_ret
    rw [show giveDL cs ps = [] by simp [giveDL, HC.out]]
    exact ownR_row (rs := []) hO2 (Below.refl _ _) hB2
  have HC := Lib.hid hC
  clear hC
  go_wp2_with fail
  refine (specPlacesValid_any P m pc ps w2 hm (hp.below hB2)).mono ?_; rintro e w3 ⟨rfl, hb3⟩
  have hO3 := own_keep hO2 hb3
  have hB3 := below_next hB2 hb3
  cases hP : placesB ps
  · have HP := Lib.hid hP
    clear hP hO1 hO2 hb1 hb2 hb3 hw1
    go_wp2
    go_ret
    rw [show giveDL cs ps = [] by simp [giveDL, HP.out]]
    exact ownR_row (rs := []) hO3 (Below.refl _ _) hB3
  have HP := Lib.hid hP
  clear hP
  have hn6 : n ≤ 6 := by rw [HNN.out]; exact carsB_len HC.out
  have hm6 : m ≤ 6 := by rw [← HM.out]; exact placesB_len HP.out
  have hs13 : w1.heap.size ≤ w3.heap.size := Nat.le_trans hb2.size hb3.size
  have hU4 := own0 (base := w.heap.size) (w1 := w3) hB3.size
  have hb4 : Below w3.heap.size w3 (w3.alloc (.cells #[] 3)) := (Below.refl _ _).alloc (Nat.le_refl _) _
  have hw4 : (w3.alloc (.cells #[] 3)).heap.size = w3.heap.size + 1 := by simp
  clear hO1 hO2 hb1 hb2 hb3 hB2
  go_wp2_with fail
  generalize w3.alloc (.cells #[] 3) = w4 at hU4 hb4 hw4 ⊢
  have hO4 := own_keep hO3 hb4
  have hB4 := below_next hB3 hb4
  refine (specCarsDown_any A n c cs w4 HN.out (hx.below hB4)).mono ?_; rintro e w5 ⟨O, q, oc, rfl, hq, hO5, hb5⟩
  have hdl : downL cs = toI (downK cs n) := by rw [downL_yes HC.out (downK_is cs cs.length), ← HNN.out]
  have hqn : q = n := by rw [hq, hdl, toI_len, downK_len (downK_is cs n)]
  subst hqn
  have hOf : FarInts w5 w4.heap.size O q oc (toI (downK cs q)) := OwnAt.farInts (by rw [← hdl, ← ic_flat]; exact hO5.own)
  have hS5 : SG w w5 A q cs P m ps O (toI (downK cs q)) w.heap.size 0 0 [] w3.heap.size 0 0 [] :=
    ⟨own_keep hO4 hb5, own_keep hU4 hb5, hOf.ints, by omega, fun _ x hA => by have := hOf.far x hA; omega, below_next hB4 hb5⟩
  clear hq hdl hO5 hOf hO3 hO4 hU4 hB3 hB4 hb4 hb5 hw1 hw4 hs13
  clear hbs
  go_wp2
  go_loopw [5, 8] (fun vg vk wr => ∃ (k gg gc : Nat), k ≤ q ∧ vk = .int .i64 k ∧ vg = .slice (some ⟨gg, 0, none⟩) k gc ∧ SG w wr A q cs P m ps O (toI (downK cs q)) gg gc k (List.replicate k (-1)) w3.heap.size 0 0 []) (fun _ k _ => q - (intOf k).toNat)
  case atStart => exact ⟨0, _, _, by omega, rfl, rfl, hS5⟩
  case round =>
    obtain ⟨k, gg, gc, hkq, rfl, rfl, hS⟩ := hrel
    clear hS5
    by_cases hlt : k < q
    · go_wp2_with (at_builtin; refine wpList_moreG (base := w.heap.size) rfl (.tmp 31) (.tmp 32) rfl hS.below.size hS.give (-1) rfl rfl (by omega) ?_; intro ga capa wa hOa hga hat)
      go_roundw
      case rel => exact ⟨k + 1, ga, capa, by omega, by go_num, rfl, by rw [List.replicate_succ']; exact hS.addG hOa hga hat⟩
      case measure => simp [intOf]; omega
    · obtain rfl : k = q := by omega
      have hz := giveAt_zero cs ps
      rw [← HNN.out] at hz
      rw [← hz] at hS
      have hUz : Used [] (giveAt cs ps 0) := by rw [hz]; exact used_nil _
      clear hz
      go_wp2
      go_loopw [6, 9, 10, 11] (fun vu vk _ _ w8 => ∃ (i gu uc u : Nat) (U : List Int), i ≤ k ∧ u ≤ i ∧ vk = .int .i64 i ∧ vu = .slice (some ⟨gu, 0, none⟩) u uc ∧ Used U (giveAt cs ps i) ∧ SG w w8 A k cs P m ps O (toI (downK cs k)) gg gc k (giveAt cs ps i) gu uc u U) (fun _ i _ _ _ => k - (intOf i).toNat)
      case atStart => exact ⟨0, _, _, 0, [], by omega, by omega, rfl, rfl, hUz, hS⟩
      case round =>
        obtain ⟨i, gu, uc, u, U, hik, hui, rfl, rfl, hUs, hS8⟩ := hrel
        obtain ⟨w8, rfl⟩ : ∃ w8, w8 = wr := ⟨_, rfl⟩
        clear hS hUz
        by_cases hlti : i < k
        · skip
          have hDl := downK_len (downK_is cs k)
          obtain ⟨d, hd⟩ : ∃ d, (downK cs k)[i]? = some d := ⟨_, List.getElem?_eq_getElem (by omega)⟩
          obtain ⟨hnew, hdk⟩ := down_new hd
          have hinv := giveAt_inv cs ps i
          rw [← HNN.out] at hinv
          have HGL := Lib.hid (show (giveAt cs ps i).length = k by rw [hinv.len, HNN.out])
          have HD1 := Lib.hid (hinv.rest d (by rw [← HNN.out]; exact hdk) hnew)
          have HNEXT := Lib.hid (giveAt_next (cs := cs) (ps := ps) (k := i) (d := d) (by rw [← HNN.out]; exact hd))
          obtain ⟨z, bo, oo, HZ, rfl, hbo, cz⟩ := IntsAt.get hS8.order hlti
          obtain rfl : z = (d : Int) := by have := HZ.out; rw [toI_get hd] at this; injection this with this; exact this.symm
          obtain ⟨x, bx, ox, HX, rfl, hxl, c0, c1, c2, c3⟩ := CarsAt.get (hx.below hS8.below) hdk
          have hok : x.ok = true := carsB_get HC.out HX
          have hkl : (i : Int) < (k : Int) := by omega
          have hdl : (d : Int) < (k : Int) := by omega
          have hd0 : (0 : Int) ≤ (d : Int) := by omega
          have HDI := Lib.hid (toI_get hd)
          clear HZ hd hnew hinv hDl
          generalize giveAt cs ps i = G at HGL HD1 HNEXT hUs hS8 ⊢
          go_wp2_with fail
          refine (specPlacesFor_any x P m pc ps w8 hm (hp.below hS8.below)).mono ?_; rintro e w9 ⟨L, ql, lc, rfl, hql, hL9, hb9⟩
          have hql6 : ql ≤ 6 := by rw [hql]; exact forL_short _ _
          have hLf : FarInts w9 w8.heap.size L ql lc (selK (adjC cs ps d) ps.length) := OwnAt.farInts (by rw [← forL_list HX.out hok HP.out, ← ic_flat]; exact hL9.own)
          have hS9 := hS8.next hb9
          have hLne : ∀ y, L = some y → y.block ≠ gg ∧ y.block ≠ gu := fun y hy => by
            have h1 := hLf.far y hy
            have h2 := (own_lt hS8.give).2
            have h3 := (own_lt hS8.used).2
            omega
          have hLi := hLf.ints
          clear hql hL9 hLf hb9 hS8 cz c0 c1 c2 c3 hbo hxl HX hok
          go_wp2
          go_loopw [6, 11] (fun vu vj wq => ∃ (j gu' uc' u' : Nat) (U' G' : List Int), vj = .int .i64 j ∧ vu = .slice (some ⟨gu', 0, none⟩) u' uc' ∧ SG w wq (some ⟨bx, ox, none⟩) k cs P m ps (some ⟨bo, oo, none⟩) (toI (downK cs k)) gg gc k G' gu' uc' u' U' ∧ IntsAt wq L ql (selK (adjC cs ps d) ps.length) ∧ (∀ y, L = some y → y.block ≠ gg ∧ y.block ≠ gu') ∧ j ≤ ql ∧
            ((G' = G ∧ Used U' G ∧ u' ≤ i ∧ ∀ (r : Nat) (z : Int), r < j → (selK (adjC cs ps d) ps.length)[r]? = some z → hasB U' z = true) ∨ (∃ p : Nat, G' = G.set d (p : Int) ∧ Used U' G' ∧ u' ≤ i + 1 ∧ firstP cs ps G d = some p))) (fun _ j _ => ql - (intOf j).toNat)
          case atStart => exact ⟨0, _, _, u, U, G, rfl, rfl, hS9, hLi, hLne, by omega, .inl ⟨rfl, hUs, hui, fun r z h => by omega⟩⟩
          case round =>
            obtain ⟨j, gu', uc', u', U', G', rfl, rfl, hSj, hLj, hLn, hjq, hst⟩ := hrel
            clear hS9 hLi hLne hUs
            obtain ⟨w7, rfl⟩ : ∃ w7, w7 = wr := ⟨_, rfl⟩
            obtain ⟨z, b1, o1, HZ, he1, hbo, cz⟩ := IntsAt.get hSj.order hlti
            injection he1 with he1; injection he1 with e1 e2; subst e1; subst e2
            obtain rfl : z = (d : Int) := by have := HZ.out; rw [HDI.out] at this; injection this with this; exact this.symm
            obtain ⟨v, b2, o2, HV, he2, hgl, cv⟩ := IntsAt.get (OwnAt.farInts hSj.give).ints hdk
            injection he2 with he2; injection he2 with e1 e2; subst e1; subst e2
            simp only [Nat.zero_add] at cv
            clear HZ
            rcases hst with ⟨rfl, hUs, hu', hbef⟩ | ⟨p, rfl, hUs, hu', hfp⟩
            · obtain rfl : v = -1 := by
                have h1 := HD1.out
                rw [gM, List.getD_eq_getElem?_getD, HV.out] at h1
                simpa using h1
              by_cases hlj : j < ql
              · have HBEF := Lib.hid hbef
                have HUS := Lib.hid hUs
                clear hbef hUs HV
                obtain ⟨zz, bL, oL, HZZ, rfl, hLl, czz⟩ := IntsAt.get hLj hlj
                obtain ⟨p, rfl, hpl, hpf⟩ := mem_selK.1 (List.mem_of_getElem? HZZ.out)
                have hjl : (j : Int) < (ql : Int) := by omega
                go_wp2_with fail
                cases hus : hasB U' (p : Int)
                · refine (l1Has_no _ u' uc' U' (p : Int) _ (by omega) (OwnAt.farInts hSj.used).ints hus).mono ?_; rintro e w6 ⟨rfl, rfl⟩
                  have HUSE := Lib.hid hus
                  have hfz := (own_cell hSj.give hdk).2.1
                  have hS10 := hSj.put d (p : Int)
                  have hL10 : IntsAt (w7.setCell ⟨gg, d, none⟩ (.int .i64 (p : Int))) (some ⟨bL, oL, none⟩) ql (selK (adjC cs ps d) ps.length) := SlAt.setG hLj _ (fun _ y hy => (hLn y hy).1)
                  clear hus
                  go_upto_region 18 with fail
                  go_region
                  have hd10 : Below (w7.setCell ⟨gg, d, none⟩ (.int .i64 (p : Int))).heap.size (w7.setCell ⟨gg, d, none⟩ (.int .i64 (p : Int))) (w7.setCell ⟨gg, d, none⟩ (.int .i64 (p : Int))).drew := (Below.refl _ _).drew
                  have hS11 := hS10.next hd10
                  have hL11 := hL10.below hd10
                  clear hSj hLj hS10 hL10 hd10 cz cv czz hbo hgl hLl
                  generalize (w7.setCell ⟨gg, d, none⟩ (.int .i64 (p : Int))).drew = w6 at hS11 hL11 ⊢
                  obtain ⟨z3, b3, o3, HZ3, he3, hLl, czz⟩ := IntsAt.get hL11 hlj
                  injection he3 with he3; injection he3 with e1 e2; subst e1; subst e2
                  obtain rfl : z3 = (p : Int) := by have := HZ3.out; rw [HZZ.out] at this; injection this with this; exact this.symm
                  clear HZ3
                  go_wp2_with (at_builtin; refine wpList_moreG (base := w.heap.size) rfl (.tmp 82) (.tmp 87) rfl hS11.below.size hS11.used (p : Int) rfl rfl (by omega) ?_; intro ga capa wa hOa hga hat)
                  go_roundw
                  case rel =>
                    refine ⟨j + 1, ga, capa, u' + 1, _, _, by go_num, rfl, hS11.addU hOa hga hat, ?_, fun y hy => ?_, by omega, .inr ⟨p, rfl, HUS.out.place (by rw [HGL.out]; exact hdk) HD1.out, by omega, first_found HUS.out HZZ.out HUSE.out HBEF.out⟩⟩
                    · exact SlAt.growG (hL11.below ((Below.refl _ _).alloc (Nat.le_refl _) _)) hga (fun _ y hy e => (hLn y hy).2 (by injection e with e; exact e.symm))
                    · have h1 := hLn y hy
                      have h2 : y.block < w6.heap.size := SlAt.low hL11 (by omega) y hy
                      rcases hat with e | e
                      · have e2 : gu' = ga := Option.some.inj e
                        omega
                      · omega
                  case measure => simp [intOf]; omega
                · refine (l1Has_yes _ u' uc' U' (p : Int) _ (by omega) (OwnAt.farInts hSj.used).ints hus).mono ?_; rintro e w6 ⟨rfl, rfl⟩
                  have HUSE := Lib.hid hus
                  clear hus
                  go_wp2
                  go_roundw
                  case rel =>
                    refine ⟨j + 1, gu', uc', u', U', G', by go_num, rfl, hSj, hLj, hLn, by omega, .inl ⟨rfl, HUS.out, hu', fun r z hr hz => ?_⟩⟩
                    by_cases he : r = j
                    · subst he; rw [HZZ.out] at hz; injection hz with hz; subst hz; exact HUSE.out
                    · exact HBEF.out r z (by omega) hz
                  case measure => simp [intOf]; omega
              · obtain rfl : j = ql := by omega
                have hnone : firstP cs ps G' d = none := first_none hUs fun r z hz => hbef r z (by have := hLj.len; have := (List.getElem?_eq_some_iff.1 hz).1; omega) hz
                have HST := Lib.hid (show giveAt cs ps (i + 1) = G' by rw [HNEXT.out]; exact stepD_none hnone)
                have HUS := Lib.hid hUs
                clear hnone hbef hUs HV
                go_wp2
                go_roundw
                case rel => exact ⟨i + 1, gu', uc', u', U', by omega, by omega, by go_num, rfl, by rw [HST.out]; exact HUS.out, by rw [HST.out]; exact hSj⟩
                case measure => simp [intOf]; omega
            · obtain rfl : v = (p : Int) := by
                have h1 := HV.out
                rw [List.getElem?_set_self (by rw [HGL.out]; exact hdk)] at h1
                injection h1 with h1; exact h1.symm
              have HST := Lib.hid (show giveAt cs ps (i + 1) = G.set d (p : Int) by rw [HNEXT.out]; exact stepD_some hfp)
              have HUS := Lib.hid hUs
              have hpn : decide ((p : Int) < 0) = false := by simp
              clear hfp hUs HV
              by_cases hlj : j < ql
              · have hjl : (j : Int) < (ql : Int) := by omega
                go_wp2
                go_roundw
                case rel => exact ⟨i + 1, gu', uc', u', U', by omega, by omega, by go_num, rfl, by rw [HST.out]; exact HUS.out, by rw [HST.out]; exact hSj⟩
                case measure => simp [intOf]; omega
              · go_wp2
                go_roundw
                case rel => exact ⟨i + 1, gu', uc', u', U', by omega, by omega, by go_num, rfl, by rw [HST.out]; exact HUS.out, by rw [HST.out]; exact hSj⟩
                case measure => simp [intOf]; omega
        · obtain rfl : i = k := by omega
          go_wp2
          go_ret
          have hall := giveAt_all cs ps
          rw [← HNN.out] at hall
          rw [giveDL_yes HC.out HP.out, ← HNN.out, ← hall]
          exact ownR_row hS8.give (Below.refl _ _) hS8.below
end Go.Proofs.YtmmaeninlhbaaaaDoor
