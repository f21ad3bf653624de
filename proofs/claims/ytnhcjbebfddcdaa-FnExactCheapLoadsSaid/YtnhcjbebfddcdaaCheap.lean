/-
  CheapLoads and CheapCost of the program and of the reference.
-/
import Derived.Test.YtnhcjbebfddcdaaCheap0
import Derived.Test.YtnhcjbebfddcdaaCost
namespace Go.Proofs.Ytnhcjbebfddcdaa
open Go.ChangeShapes Go.WideShapes Go.ChangeAt Go.RowKit

def cheapB (ns : List N4) (feed p : List Int) : Bool := needsB ns && feedB feed && feedB p
def cheapL (ns : List N4) (feed p : List Int) : List Int := if cheapB ns feed p then loadL ns feed p (fun _ => true) else []
theorem cheapL_no {ns : List N4} {feed p : List Int} (h : cheapB ns feed p = false) : cheapL ns feed p = [] := by unfold cheapL; rw [h]; rfl
theorem cheapL_yes {ns : List N4} {feed p : List Int} (h : cheapB ns feed p = true) : cheapL ns feed p = loadL ns feed p (fun _ => true) := by unfold cheapL; rw [h]; rfl
theorem cheapL_len {ns : List N4} {feed p : List Int} (h : cheapB ns feed p = true) : (cheapL ns feed p).length = 6 := by rw [cheapL_yes h]; exact loadL_len _ _ _ _
theorem whole_ints {w : World} {g base n : Nat} {xs : List Int} (h : Whole w g 3 (xs.map (Value.int .i64))) (hl : xs.length = n) (hb : base ≤ g) (hm : n ≤ maxLen) : OwnAt w base 3 1 (.slice (some ⟨g, 0, none⟩) n n) n (ic xs) := by
  have hf : ∀ l : List Int, (ic l).flatten = l.map (Value.int .i64) := by
    intro l
    induction l with
    | nil => rfl
    | cons x l ih => simp only [ic, List.map_cons, List.flatten_cons] at *; rw [ih]; rfl
  refine Whole.own (by rw [hf]; exact h) (by simp [ic, hl]) ?_ hb hm
  intro r hr
  simp only [ic, List.mem_map] at hr
  obtain ⟨x, _, rfl⟩ := hr
  rfl
theorem some_feedB {feed : List Int} (h : small feed) (S : Nat → Bool) : feedB (someL feed S 6) = true := feedB_mk (someL_len _ _ _) (someL_small h S 6)
theorem gain_st {ns : List N4} {feed p : List Int} {q : Int} {h : Nat} (hp : p.getD h 0 = q) : gainI ns feed p h = mostI ns (someL feed (stI p q (h + 1)) 6) - mostI ns (someL feed (stI p q h) 6) := by
  unfold gainI
  rw [← stI_bef hp, someL_congr (S := stI p q (h + 1)) (fun j _ => stI_eq hp j)]
theorem getD_of {p : List Int} {h : Nat} {x : Int} (H : Hid (p[h]? = some x)) : p.getD h 0 = x := by
  have h' := H.out; simp [List.getD_eq_getElem?_getD, h']

set_option maxHeartbeats 4000000 in
theorem cheapLoads_any (A : Option Addr) (n c : Nat) (ns : List N4) (F : Option Addr) (m fc : Nat) (feed : List Int) (P : Option Addr) (l pc : Nat) (p : List Int) (w : World)
    (hn : n ≤ 9223372036854775807) (hx : NeedsAt w A n ns) (hm : m ≤ 9223372036854775807) (hf : IntsAt w F m feed) (hl : l ≤ 9223372036854775807) (hp : IntsAt w P l p) :
    Calls Try.prog 44 #[.slice A n c, .slice F m fc, .slice P l pc] w fun e w' => ∃ A' n' c', e = .returned (.slice A' n' c') ∧ OwnAt w' w.heap.size 3 1 (.slice A' n' c') n' (ic (cheapL ns feed p)) ∧ A'.isSome = cheapB ns feed p ∧ Below w.heap.size w w' := by
  have hnil : ∀ w' : World, cheapB ns feed p = false → OwnAt w' w.heap.size 3 1 (.slice none 0 0) 0 (ic (cheapL ns feed p)) := by
    intro w' h; rw [cheapL_no h]
    exact ⟨⟨rfl, .inl ⟨rfl, rfl⟩⟩, rfl, by simp [ic]⟩
  have HNil := Lib.hid hnil
  clear hnil
  cases hN : needsB ns
  · have HN := Lib.hid hN
    go_enter Try.func44, Try.ntmps44
    go_wp2_with fail
    refine (needsValid_any A n c ns _ hn hx).mono ?_; rintro e w1 ⟨rfl, hb1⟩
    go_wp2
    go_ret
    have hno : cheapB ns feed p = false := by unfold cheapB; rw [HN.out]; rfl
    exact ⟨_, _, _, rfl, HNil.out _ hno, hno.symm, hb1⟩
  have HN := Lib.hid hN
  cases hF : feedB feed
  · have HF := Lib.hid hF
    go_enter Try.func44, Try.ntmps44
    go_wp2_with fail
    refine (needsValid_any A n c ns _ hn hx).mono ?_; rintro e w1 ⟨rfl, hb1⟩
    go_wp2_with fail
    refine (feedValid_any F m fc feed _ hm (hf.below hb1)).mono ?_; rintro e w2 ⟨rfl, rfl⟩
    go_wp2
    go_ret
    have hno : cheapB ns feed p = false := by unfold cheapB; rw [HF.out, Bool.and_false]; rfl
    exact ⟨_, _, _, rfl, HNil.out _ hno, hno.symm, hb1⟩
  have HF := Lib.hid hF
  cases hP : feedB p
  · have HP := Lib.hid hP
    go_enter Try.func44, Try.ntmps44
    go_wp2_with fail
    refine (needsValid_any A n c ns _ hn hx).mono ?_; rintro e w1 ⟨rfl, hb1⟩
    go_wp2_with fail
    refine (feedValid_any F m fc feed _ hm (hf.below hb1)).mono ?_; rintro e w2 ⟨rfl, rfl⟩
    go_wp2_with fail
    refine (feedValid_any P l pc p _ hl (hp.below hb1)).mono ?_; rintro e w2 ⟨rfl, rfl⟩
    go_wp2
    go_ret
    have hno : cheapB ns feed p = false := by unfold cheapB; rw [HP.out, Bool.and_false]
    exact ⟨_, _, _, rfl, HNil.out _ hno, hno.symm, hb1⟩
  · have HP := Lib.hid hP
    clear HNil
    have HOK : Hid (cheapB ns feed p = true) := by
      have h1 := HN.out
      have h2 := HF.out
      have h3 := HP.out
      show cheapB ns feed p = true
      unfold cheapB; rw [h1, h2, h3]; rfl
    have hf6 := feedB_small HF.out
    have hp6 := feedB_small HP.out
    have hm6 : m = 6 := by have := hf.len; omega
    have hl6 : l = 6 := by have := hp.len; omega
    have hfs := hf6.2
    have hps := hp6.2
    clear hf6 hp6
    subst hm6
    subst hl6
    have hmk : ∀ w : World, (Instr.makeSlice 22 (.int .i64 6) (.int .i64 6)).run Try.prog w = .ok (.slice (some ⟨w.heap.size, 0, none⟩) 6 6) (w.alloc (.cells #[.int .i64 0, .int .i64 0, .int .i64 0, .int .i64 0, .int .i64 0, .int .i64 0] 3)) := fun _ => by kernel_rfl
    go_enter Try.func44, Try.ntmps44
    go_wp2_with fail
    refine (needsValid_any A n c ns _ hn hx).mono ?_; rintro e w1 ⟨rfl, hb1⟩
    go_wp2_with fail
    refine (feedValid_any F _ fc feed _ hm (hf.below hb1)).mono ?_; rintro e w2 ⟨rfl, rfl⟩
    go_wp2_with fail
    refine (feedValid_any P _ pc p _ hl (hp.below hb1)).mono ?_; rintro e w2 ⟨rfl, rfl⟩
    go_wp2
    clear hN hF hP
    obtain ⟨L, HL⟩ : ∃ L, Hid (L = w1.heap.size) := ⟨_, rfl⟩
    have hsz := hb1.size
    rw [← HL.out] at hsz ⊢
    have z6 : someL feed (stI p 0 0) 6 = [0, 0, 0, 0, 0, 0] := by
      rw [someL_congr (S' := fun _ => false) (fun j _ => stI_start hps j)]; rfl
    have z6' : loadL ns feed p (stI p 0 0) = [0, 0, 0, 0, 0, 0] := by
      rw [loadL_congr (S' := fun _ => false) (fun j _ => stI_start hps j)]; rfl
    have hm0 : mostI ns (someL feed (stI p 0 0) 6) = 0 := mostI_zero HN.out feed _ (fun j _ => stI_start hps j) hfs
    go_loopw [9, 10] (fun t i wr => ∃ q : Nat, q ≤ 31 ∧ i = .int .i64 q ∧ t = .int .i64 (mostI ns (someL feed (stI p q 0) 6)) ∧ Whole wr L 3 ((loadL ns feed p (stI p q 0)).map (Value.int .i64)) ∧ Whole wr (L + 1) 3 ((someL feed (stI p q 0) 6).map (Value.int .i64)) ∧ Below w.heap.size w wr) (fun _ i _ => 31 - (intOf i).toNat)
    case atStart =>
      refine ⟨0, Nat.zero_le _, rfl, ?_, ?_, ?_, ?_⟩
      · exact congrArg (Value.int .i64) hm0.symm
      · have := (Whole.new w1 3 [.int .i64 0, .int .i64 0, .int .i64 0, .int .i64 0, .int .i64 0, .int .i64 0]).alloc (.cells #[.int .i64 0, .int .i64 0, .int .i64 0, .int .i64 0, .int .i64 0, .int .i64 0] 3)
        rw [← HL.out] at this
        have h0 := z6'
        simp only [Int.natCast_zero] at *
        rw [h0]; exact this
      · have := Whole.new (w1.alloc (.cells #[.int .i64 0, .int .i64 0, .int .i64 0, .int .i64 0, .int .i64 0, .int .i64 0] 3)) 3 [.int .i64 0, .int .i64 0, .int .i64 0, .int .i64 0, .int .i64 0, .int .i64 0]
        simp only [World.size_alloc, ← HL.out] at this
        have h0 := z6
        simp only [Int.natCast_zero] at *
        rw [h0]; exact this
      · exact (hb1.alloc hb1.size _).alloc (by have := hb1.size; simp; omega) _
    case round =>
      obtain ⟨q, hq, rfl, rfl, hwl, hws, hbw⟩ := hrel
      obtain ⟨wo, rfl⟩ : ∃ wo : World, wo = wr := ⟨_, rfl⟩
      clear z6 z6' hm0
      by_cases hlt : q < 31
      · have hdq : decide ((q : Int) ≤ 30) = true := by simp; omega
        go_wp2
        try rw [hdq]
        clear hdq
        go_loopw [9, 34] (fun t i wr => ∃ h : Nat, h ≤ 6 ∧ i = .int .i64 h ∧ t = .int .i64 (mostI ns (someL feed (stI p q h) 6)) ∧ Whole wr L 3 ((loadL ns feed p (stI p q h)).map (Value.int .i64)) ∧ Whole wr (L + 1) 3 ((someL feed (stI p q h) 6).map (Value.int .i64)) ∧ Below w.heap.size w wr) (fun _ i _ => 6 - (intOf i).toNat)
        case atStart => exact ⟨0, Nat.zero_le _, rfl, rfl, hwl, hws, hbw⟩
        case round =>
          obtain ⟨hj, hh, rfl, rfl, hvl, hvs, hbv⟩ := hrel
          have hm0 := mostI_bd HN.out (some_feedB hfs (stI p q hj))
          by_cases hh6 : hj < 6
          · obtain ⟨x, b, off, HX, rfl, hb, hc⟩ := (hp.below hbv).get hh6
            by_cases hxq : x = (q : Int)
            · obtain ⟨y, b', off', HY, rfl, hb', hc'⟩ := (hf.below hbv).get hh6
              have HXQ := Lib.hid hxq
              have hst := hvs.set_ hj (.int .i64 y)
              have hss : (((someL feed (stI p q hj) 6).map (Value.int .i64)).set hj (.int .i64 y)) = (someL feed (stI p q (hj + 1)) 6).map (Value.int .i64) := by
                rw [← List.map_set, ← getD_of HY, someL_set hh6, someL_congr (S' := stI p q (hj + 1)) (fun j _ => (stI_eq ((getD_of HX).trans HXQ.out) j).symm)]
              rw [hss] at hst
              clear hss
              have hu := hvs.cell hj
              have hz := hvs.free hj
              obtain ⟨uu, huu⟩ : ∃ u, ((someL feed (stI p q hj) 6).map (Value.int .i64))[hj]? = some u := ⟨_, List.getElem?_eq_getElem (by simp [someL_len]; exact hh6)⟩
              rw [huu] at hu
              clear huu
              have hsl := hvs.lt
              have hm1 := mostI_bd HN.out (some_feedB hfs (stI p q (hj + 1)))
              have HM := Lib.hid (mostR_yes HN.out (some_feedB hfs (stI p q (hj + 1))))
              have HG := Lib.hid (gain_st (ns := ns) (feed := feed) ((getD_of HX).trans HXQ.out))
              have hbv2 : Below w.heap.size w (wr.setCell ⟨L + 1, hj, none⟩ (.int .i64 y)) := hbv.setCell (by simp; omega) _
              have hvl2 := hvl.far (p := ⟨L + 1, hj, none⟩) (by simp) (.int .i64 y)
              go_wp2_with fail
              refine (mostUnits_any A n c ns (some ⟨L + 1, 0, none⟩) 6 6 (someL feed (stI p q (hj + 1)) 6) _ hn (hx.below hbv2) (by omega) (ints_whole hst (someL_len _ _ _))).mono ?_; rintro e w3 ⟨rfl, hb3⟩
              rw [HM.out]
              obtain ⟨m1, HM1⟩ : ∃ z, Hid (z = mostI ns (someL feed (stI p q (hj + 1)) 6)) := ⟨_, rfl⟩
              obtain ⟨m0, HM0⟩ : ∃ z, Hid (z = mostI ns (someL feed (stI p q hj) 6)) := ⟨_, rfl⟩
              rw [← HM1.out] at hm1 HG ⊢
              rw [← HM0.out] at hm0 HG ⊢
              have hvl3 := hvl2.below hb3
              have hvs3 := hst.below hb3
              have hbv3 := below_next hbv2 hb3
              have hu3 := hvl3.cell hj
              have hz3 := hvl3.free hj
              obtain ⟨uu, huu⟩ : ∃ u, ((loadL ns feed p (stI p q hj)).map (Value.int .i64))[hj]? = some u := ⟨_, List.getElem?_eq_getElem (by simp [loadL_len]; exact hh6)⟩
              rw [huu] at hu3
              clear huu
              have hset := hvl3.set_ hj (.int .i64 (m1 - m0))
              have hss : (((loadL ns feed p (stI p q hj)).map (Value.int .i64)).set hj (.int .i64 (m1 - m0))) = (loadL ns feed p (stI p q (hj + 1))).map (Value.int .i64) := by
                rw [← HG.out, ← List.map_set, loadL_set hh6, loadL_congr (S' := stI p q (hj + 1)) (fun j _ => (stI_eq ((getD_of HX).trans HXQ.out) j).symm)]
              rw [hss] at hset
              clear hss
              have hsl3 := hvs3.lt
              clear hst hu hz
              go_wp2
              go_roundw
              case rel => exact ⟨hj + 1, by omega, by go_num, by rw [HM1.out], hset, hvs3.far (p := ⟨L, hj, none⟩) (by simp) _, hbv3.setCell (by simp; omega) _⟩
              case measure => simp [intOf]; omega
            · have hne : p.getD hj 0 ≠ (q : Int) := by rw [getD_of HX]; exact hxq
              have HE1 := Lib.hid (someL_congr (feed := feed) (k := 6) (fun j _ => stI_ne hne j))
              have HE2 := Lib.hid (loadL_congr (ns := ns) (feed := feed) (p := p) (fun j _ => stI_ne hne j))
              go_wp2
              go_roundw
              case rel => exact ⟨hj + 1, by omega, by go_num, by rw [HE1.out], by rw [HE2.out]; exact hvl, by rw [HE1.out]; exact hvs, hbv⟩
              case measure => simp [intOf]; omega
          · obtain rfl : hj = 6 := by omega
            have HE1 := Lib.hid (someL_congr (feed := feed) (k := 6) (fun j hk => stI_next (p := p) (q := q) j hk))
            have HE2 := Lib.hid (loadL_congr (ns := ns) (feed := feed) (p := p) (fun j hk => stI_next (p := p) (q := q) j hk))
            go_wp2
            go_roundw
            case rel => exact ⟨q + 1, by omega, by go_num, by rw [HE1.out]; go_num, by have ee := HE2.out; rw [ee] at hvl; exact_mod_cast hvl, by have ee := HE1.out; rw [ee] at hvs; exact_mod_cast hvs, hbv⟩
            case measure => simp [intOf]; omega
      · obtain rfl : q = 31 := by omega
        go_wp2
        go_ret
        refine ⟨_, _, _, rfl, ?_, HOK.out.symm, hbw⟩
        rw [cheapL_yes HOK.out, ← loadL_congr (S := stI p 31 0) (fun j _ => stI_end hps j)]
        exact whole_ints hwl (loadL_len _ _ _ _) hsz (by unfold maxLen; omega)
end Go.Proofs.Ytnhcjbebfddcdaa
