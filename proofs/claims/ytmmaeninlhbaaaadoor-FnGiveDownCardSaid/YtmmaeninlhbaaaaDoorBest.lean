/-
  The best list by the reference: l3Better, l3Best, GiveBest.
-/
import Derived.Test.YtmmaeninlhbaaaaDoorBestP
import Derived.Test.YtmmaeninlhbaaaaDoorGiveW
import Derived.Test.YtmmaeninlhbaaaaDoorOf
import Derived.Test.YtmmaeninlhbaaaaDoorSum
namespace Go.Proofs.YtmmaeninlhbaaaaDoor
open Go.ChangeShapes Go.WideShapes Go.ChangeAt Go.RowKit

set_option maxHeartbeats 2000000 in
theorem l3Better_any (A : Option Addr) (n c : Nat) (cs : List C4) (P : Option Addr) (m pc : Nat) (ps : List P3) (X : Option Addr) (l xc : Nat) (x : List Int) (Y : Option Addr) (q yc : Nat) (b : List Int) (w : World)
    (hn : n ≤ c ∧ c ≤ 9223372036854775807) (hx : CarsAt w A n cs) (hm : m ≤ 9223372036854775807) (hp : PlacesAt w P m ps) (hl : l ≤ xc ∧ xc ≤ 9223372036854775807) (hX : IntsAt w X l x) (hq : q ≤ yc ∧ yc ≤ 9223372036854775807) (hY : IntsAt w Y q b) :
    Calls Tryd.prog 70 #[.slice A n c, .slice P m pc, .slice X l xc, .slice Y q yc] w (RV w (.bool (betterB cs ps x b))) := by
  have HN := Lib.hid hn
  have HLC := Lib.hid hl
  have HQC := Lib.hid hq
  have e1 : manyL x = ((manyN x : Nat) : Int) := rfl
  have e2 : manyL b = ((manyN b : Nat) : Int) := rfl
  have E1 := Lib.hid e1
  have E2 := Lib.hid e2
  clear e1 e2
  have b1 : manyN x ≤ 9223372036854775807 := by have := manyN_le x; have := hX.len; omega
  have b2 : manyN b ≤ 9223372036854775807 := by have := manyN_le b; have := hY.len; omega
  go_enter Tryd.func70, Tryd.ntmps70
  go_wp2_with fail
  refine (specGiveMany_any X l xc x _ (by omega) hX).mono ?_; rintro e w1 ⟨rfl, rfl⟩
  go_wp2_with fail
  refine (specGiveMany_any Y q yc b _ (by omega) hY).mono ?_; rintro e w1 ⟨rfl, rfl⟩
  obtain ⟨u, HU⟩ : ∃ u, Hid (u = manyN x) := ⟨_, rfl⟩
  obtain ⟨v, HV⟩ : ∃ v, Hid (v = manyN b) := ⟨_, rfl⟩
  rw [← HU.out, ← HV.out]
  replace b1 : u ≤ 9223372036854775807 := by have := HU.out; omega
  replace b2 : v ≤ 9223372036854775807 := by have := HV.out; omega
  by_cases huv : u = v
  · have hne : ((u : Int) != (v : Int)) = false := by simp [huv]
    have hne2 : (u != v) = false := by simp [huv]
    have HUV := Lib.hid huv
    clear huv
    go_wp2_with fail
    refine (specGiveWaste_any A n c cs P m pc ps X l xc x _ HN.out hx hm hp HLC.out hX).mono ?_; rintro e w2 ⟨rfl, hb2⟩
    go_wp2_with fail
    refine (specGiveWaste_any A n c cs P m pc ps Y q yc b _ HN.out (hx.below hb2) hm (hp.below hb2) HQC.out (hY.below hb2)).mono ?_; rintro e w3 ⟨rfl, hb3⟩
    go_wp2
    go_ret
    refine ⟨ret_bool ?_, below_next hb2 hb3⟩
    unfold betterB
    rw [if_pos (by rw [E1.out, E2.out, ← HU.out, ← HV.out, HUV.out])]
  · have hne : ((u : Int) != (v : Int)) = true := bne_iff_ne.2 (by omega)
    have hne2 : (u != v) = true := by simpa using huv
    have HUV := Lib.hid huv
    clear huv
    go_wp2_with fail
    refine (specGiveMany_any X l xc x _ (by omega) hX).mono ?_; rintro e w1 ⟨rfl, rfl⟩
    go_wp2_with fail
    refine (specGiveMany_any Y q yc b _ (by omega) hY).mono ?_; rintro e w1 ⟨rfl, rfl⟩
    go_wp2
    go_ret
    refine ⟨ret_bool ?_, Below.refl _ _⟩
    unfold betterB
    rw [if_neg (by rw [E1.out, E2.out, ← HU.out, ← HV.out]; have := HUV.out; omega), E1.out, E2.out, ← HU.out, ← HV.out]
    simp

/-- A list of numbers copied to an empty list of the call's own. -/
theorem wpList_copy {ops : Array Oper} {rest : List Oper} {o : Oper} {a : Act} {Q : Exit → Act → World → Prop} {wx : World} (hgd : o.guard = none) (s x : Operand)
    (ho : o.op = .call { callee := .builtin .append, args := #[s, x], argTypes := #[27, 27] })
    {Gb n gc base : Nat} {g : List Int} (hg : wx.ownsRow base 3 1 (.slice (some ⟨Gb, 0, none⟩) n gc) n (g.map (Value.int .i64))) (hs : a.eval s = .slice (some ⟨wx.heap.size, 0, none⟩) 0 0)
    (hx : a.eval x = .slice (some ⟨Gb, 0, none⟩) n gc) (hn : n ≤ 1048576)
    (h : ∀ v' w', w'.ownsRow wx.heap.size 3 1 v' n (g.map (Value.int .i64)) → Below wx.heap.size wx w' → wpList Tryd.prog ops Q rest (a.put o.dst v') w') :
    wpList Tryd.prog ops Q (o :: rest) a (wx.alloc (.cells #[] 3)) := by
  obtain ⟨i0, hi, hz0, hz1, hz2⟩ := info_parts int_info
  refine wpList_append_own _ hgd s x 27 ho wx.heap.size 3 i0 (.int .i64 0) 1 8 Tryd.underlying27 hi hz0 hz1 hz2 rfl (by decide) (.slice (some ⟨wx.heap.size, 0, none⟩) 0 0) 0 [] hs (own_empty (Nat.le_refl _)) ⟨Gb, 0, none⟩ n gc (g.map (Value.int .i64)) hx (by have := hg.1; omega) ?_ ?_ (by unfold maxLen; omega) (by omega) (by simp) ?_
  · intro j u hu
    have hc := hg.cells (g := Gb) rfl j u hu
    rw [World.cell?_alloc_lt _ _ _ ?_]
    · exact hc
    · exact World.block_lt_of_cell? _ _ hc
  · intro u hu
    obtain ⟨z, _, rfl⟩ := List.mem_map.1 hu
    rfl
  · intro v' w' hown' hgrow _
    refine h v' w' (by simpa using hown') (((Below.refl _ wx).alloc (Nat.le_refl _) _).grown hgrow (by simp) (by intro k hk; simp [Value.ownBlock] at hk; omega))

/-- The best list so far lies in memory: none yet (an empty list), or one of n numbers. -/
def BestV (w : World) (B n : Nat) (v : Value) (o : Option (List Int)) : Prop := match o with
  | none => ∃ A c, v = .slice A 0 c
  | some b => ∃ A c, v = .slice A n c ∧ OwnAt w B 3 1 (.slice A n c) n (ic b)
theorem BestV.below {w w' : World} {B n : Nat} {v : Value} {o : Option (List Int)} (h : BestV w B n v o) (hb : Below w.heap.size w w') : BestV w' B n v o := by
  cases o with
  | none => exact h
  | some b => obtain ⟨A, c, h1, h2⟩ := h; exact ⟨A, c, h1, h2.below hb⟩
/-- What l3Best answers. -/
def BestR (w : World) (B n : Nat) (b : List Int) (e : Ending) (w' : World) : Prop := ∃ A c, e = .returned (.slice A n c) ∧ OwnAt w' B 3 1 (.slice A n c) n (ic b) ∧ Below w.heap.size w w'
theorem betterB_hid {cs : List C4} {ps : List P3} {x b : List Int} (hx : OkPre cs ps x ∧ x.length = cs.length) (hb : OkPre cs ps b ∧ b.length = cs.length) {t : Bool} (h : Hid (betterB cs ps x b = t)) : pick cs ps (some b) x = if t then x else b := by
  have h1 := h.out
  rw [betterB_sc hx hb] at h1
  show (if sc cs ps b < sc cs ps x then x else b) = _
  cases t
  · rw [if_neg (of_decide_eq_false h1)]; rfl
  · rw [if_pos (of_decide_eq_true h1)]; rfl

set_option maxHeartbeats 8000000 in
theorem l3Best_any (A : Option Addr) (n c : Nat) (cs : List C4) (P : Option Addr) (m pc : Nat) (ps : List P3) (hn : n ≤ c ∧ c ≤ 9223372036854775807) (hncs : Hid (cs.length = n)) (hmps : Hid (ps.length = m)) :
    ∀ (f l : Nat) (g : List Int) (Gb gc B : Nat) (w : World), Hid (g.length = l) → Hid (l + f = n) → Hid (OkPre cs ps g) → B ≤ w.heap.size → CarsAt w A n cs → PlacesAt w P m ps → OwnAt w B 3 1 (.slice (some ⟨Gb, 0, none⟩) l gc) l (ic g) →
    Calls Tryd.prog 56 #[.slice A n c, .slice P m pc, .slice (some ⟨Gb, 0, none⟩) l gc] w (BestR w B n (bestL cs ps f g)) := by
  intro f
  induction f with
  | zero =>
    intro l g Gb gc B w HGL HLN HOK hB hx hp hgo
    obtain rfl : l = n := by have := HLN.out; omega
    go_enter Tryd.func56, Tryd.ntmps56
    go_wp2
    go_ret
    exact ⟨_, _, rfl, hgo, Below.refl _ _⟩
  | succ f ih =>
    intro l g Gb gc B w HGL HLN HOK hB hx hp hgo
    have IH := Lib.hid ih
    clear ih
    have HNC := Lib.hid hn
    obtain ⟨hnc, hcm⟩ := hn
    have hln : l < n := by have := HLN.out; omega
    have hm6 : m ≤ 6 := by have := placesB_len HOK.out.places; have := hmps.out; omega
    have hn6 : n ≤ 6 := by have := carsB_len HOK.out.cars; have := hncs.out; omega
    have hlne : ((l : Int) == (n : Int)) = false := by simp; omega
    have hlne2 : (l == n) = false := by simp; omega
    have hlne3 : ¬ (l : Int) = (n : Int) := by omega
    have hbs : ∀ w : World, (Instr.buildSlice 27 0 #[]).run Tryd.prog w = .ok (.slice (some ⟨w.heap.size, 0, none⟩) 0 0) (w.alloc (.cells #[] 3)) := fun _ => by kernel_rfl
    go_enter Tryd.func56, Tryd.ntmps56
    go_wp2
    have hbe : Below w.heap.size w (w.alloc (.cells #[] 3)) := (Below.refl _ _).alloc (Nat.le_refl _) _
    go_loopw [8, 9, 10] (fun v i u wr => ∃ k : Nat, k ≤ m ∧ i = .int .i64 k ∧ BestV wr B n v (kidsL cs ps f g k) ∧ Below w.heap.size w wr) (fun _ i _ _ => m - (intOf i).toNat)
    case atStart => exact ⟨0, Nat.zero_le _, rfl, ⟨_, _, rfl⟩, hbe⟩
    case round =>
      obtain ⟨k, hk, rfl, hbv, hbw⟩ := hrel
      clear hbe
      obtain ⟨wo, rfl⟩ : ∃ wo : World, wo = wr := ⟨_, rfl⟩
      have howno := hgo.below hbw
      have hBo : B ≤ wo.heap.size := Nat.le_trans hB hbw.size
      by_cases hlt : k < m
      · obtain ⟨x, b, off, HX, rfl, hb, hc0, hc1, hc2, hc3⟩ := (hx.below hbw).get hln
        obtain ⟨y, qb, qoff, HY, rfl, hqb, hd0, hd1, hd2⟩ := (hp.below hbw).get hlt
        have hk0 : (0 : Int) ≤ (k : Int) := by omega
        have hk1 : (k : Int) < (m : Int) := by omega
        have hl0 : (0 : Int) ≤ (l : Int) := by omega
        have hl1 : (l : Int) < (n : Int) := by omega
        have HXG : Hid (cs[g.length]? = some x) := Lib.hid (by rw [HGL.out]; exact HX.out)
        have HCB := Lib.hid (candB_get HXG HY)
        cases hf : fitP x y
        · have hfit := Lib.hid hf
          clear hf
          go_wp2
          refine wp_region_held_drew (S := (fun w' => w'.cell? ⟨b, off + l * 4, none⟩ = some (.int .i64 x.f) ∧ w'.cell? ⟨b, off + l * 4 + 1, none⟩ = some (.int .i64 x.t) ∧ w'.cell? ⟨b, off + l * 4 + 2, none⟩ = some (.int .i64 x.r) ∧ w'.cell? ⟨b, off + l * 4 + 3, none⟩ = some (.int .i64 x.u) ∧ w'.cell? ⟨qb, qoff + k * 3, none⟩ = some (.int .i64 y.f) ∧ w'.cell? ⟨qb, qoff + k * 3 + 1, none⟩ = some (.int .i64 y.t) ∧ w'.cell? ⟨qb, qoff + k * 3 + 2, none⟩ = some (.int .i64 y.r) ∧ Below wo.heap.size wo w')) (by kernel_rfl) ?_ (fun hHeld => ?_)
          · (try dsimp only); (first | exact ⟨hc0, hc1, hc2, hc3, hd0, hd1, hd2, (Below.refl _ _).drew⟩ | exact hHeld | (obtain ⟨k1, k2, k3, k4, k5, k6, k7, k8⟩ := hHeld; exact ⟨(hb1.cell (Nat.lt_of_lt_of_le hb k8.size)).trans k1, (hb1.cell (Nat.lt_of_lt_of_le hb k8.size)).trans k2, (hb1.cell (Nat.lt_of_lt_of_le hb k8.size)).trans k3, (hb1.cell (Nat.lt_of_lt_of_le hb k8.size)).trans k4, (hb1.cell (Nat.lt_of_lt_of_le hqb k8.size)).trans k5, (hb1.cell (Nat.lt_of_lt_of_le hqb k8.size)).trans k6, (hb1.cell (Nat.lt_of_lt_of_le hqb k8.size)).trans k7, k8.trans (hb1.mono k8.size)⟩))
          refine wpAnyH_take (i := 0) (v := ?vq1_0) (by simp only [List.getElem?_toArray, List.getElem?_cons_zero]; rfl) (by kernel_rfl) (by kernel_rfl) (by kernel_rfl) (by exact fun _ _ _ h => h) (Or.inl ⟨by rfl, ?hq1_0⟩) hHeld ?rq1_0
          case hq1_0 => (intro w hSw; (try dsimp only at hSw); go_simp; (try with_reducible rfl))
          try simp only [put_laws]
          refine wpAnyH_take (i := 1) (v := ?vq1_1) (by simp only [List.getElem?_toArray, List.getElem?_cons_succ, List.getElem?_cons_zero]; rfl) (by kernel_rfl) (by kernel_rfl) (by kernel_rfl) (by exact fun _ _ _ h => h) (Or.inl ⟨by rfl, ?hq1_1⟩) hHeld ?rq1_1
          case hq1_1 => (intro w hSw; (try dsimp only at hSw); go_simp; (try with_reducible rfl))
          try simp only [put_laws]
          refine wpAnyH_take (i := 2) (v := ?vq1_2) (by simp only [List.getElem?_toArray, List.getElem?_cons_succ, List.getElem?_cons_zero]; rfl) (by kernel_rfl) (by kernel_rfl) (by kernel_rfl) (by exact fun _ _ _ h => h) (Or.inl ⟨by rfl, ?hq1_2⟩) hHeld ?rq1_2
          case hq1_2 => (intro w hSw; (try dsimp only at hSw); go_simp; (try with_reducible rfl))
          try simp only [put_laws]
          refine wpAnyH_take (i := 3) (v := ?vq1_3) (by simp only [List.getElem?_toArray, List.getElem?_cons_succ, List.getElem?_cons_zero]; rfl) (by kernel_rfl) (by kernel_rfl) (by kernel_rfl) (by exact fun _ _ _ h => h) (Or.inl ⟨by rfl, ?hq1_3⟩) hHeld ?rq1_3
          case hq1_3 => (intro w hSw; (try dsimp only at hSw); go_simp; (try with_reducible rfl))
          try simp only [put_laws]
          refine wpAnyH_take (i := 4) (v := ?vq1_4) (by simp only [List.getElem?_toArray, List.getElem?_cons_succ, List.getElem?_cons_zero]; rfl) (by kernel_rfl) (by kernel_rfl) (by kernel_rfl) (by exact fun _ _ _ h => h) (Or.inl ⟨by rfl, ?hq1_4⟩) hHeld ?rq1_4
          case hq1_4 => (intro w hSw; (try dsimp only at hSw); go_simp; (try with_reducible rfl))
          try simp only [put_laws]
          refine wpAnyH_take (i := 5) (v := ?vq1_5) (by simp only [List.getElem?_toArray, List.getElem?_cons_succ, List.getElem?_cons_zero]; rfl) (by kernel_rfl) (by kernel_rfl) (by kernel_rfl) (by exact fun _ _ _ h => h) (Or.inl ⟨by rfl, ?hq1_5⟩) hHeld ?rq1_5
          case hq1_5 => (intro w hSw; (try dsimp only at hSw); go_simp; (try with_reducible rfl))
          try simp only [put_laws]
          refine wpAnyH_take (i := 6) (v := ?vq1_6) (by simp only [List.getElem?_toArray, List.getElem?_cons_succ, List.getElem?_cons_zero]; rfl) (by kernel_rfl) (by kernel_rfl) (by kernel_rfl) (by exact fun _ _ _ h => h) (Or.inl ⟨by rfl, ?hq1_6⟩) hHeld ?rq1_6
          case hq1_6 => (intro w hSw; (try dsimp only at hSw); go_simp; (try with_reducible rfl))
          try simp only [put_laws]
          refine wpAnyH_take (i := 7) (v := ?vq1_7) (by simp only [List.getElem?_toArray, List.getElem?_cons_succ, List.getElem?_cons_zero]; rfl) (by kernel_rfl) (by kernel_rfl) (by kernel_rfl) (by exact fun _ _ _ h => h) (Or.inl ⟨by rfl, ?hq1_7⟩) hHeld ?rq1_7
          case hq1_7 => (intro w hSw; (try dsimp only at hSw); go_simp; (try with_reducible rfl))
          try simp only [put_laws]
          refine wpAnyH_ready (rs := [8]) (by kernel_rfl) (by simp) ?_
          refine AllReadyH.cons (by simp only [List.getElem?_toArray, List.getElem?_cons_succ, List.getElem?_cons_zero]; rfl) (fun K hK => ?_) AllReadyH.nil
          go_simp
          ((with_reducible refine (specFits_no _ _ _ hfit.out).mono ?_); rintro e w1 ⟨rfl, hb1⟩)
          refine hK.out _ _ ?_ (fun hHeld => ?_)
          · (try dsimp only); (first | exact ⟨hc0, hc1, hc2, hc3, hd0, hd1, hd2, (Below.refl _ _).drew⟩ | exact hHeld | (obtain ⟨k1, k2, k3, k4, k5, k6, k7, k8⟩ := hHeld; exact ⟨(hb1.cell (Nat.lt_of_lt_of_le hb k8.size)).trans k1, (hb1.cell (Nat.lt_of_lt_of_le hb k8.size)).trans k2, (hb1.cell (Nat.lt_of_lt_of_le hb k8.size)).trans k3, (hb1.cell (Nat.lt_of_lt_of_le hb k8.size)).trans k4, (hb1.cell (Nat.lt_of_lt_of_le hqb k8.size)).trans k5, (hb1.cell (Nat.lt_of_lt_of_le hqb k8.size)).trans k6, (hb1.cell (Nat.lt_of_lt_of_le hqb k8.size)).trans k7, k8.trans (hb1.mono k8.size)⟩))
          clear hK K
          try simp only [put_laws]
          refine wpAnyH_take (i := 9) (v := ?vq1_9) (by simp only [List.getElem?_toArray, List.getElem?_cons_succ, List.getElem?_cons_zero]; rfl) (by kernel_rfl) (by kernel_rfl) (by kernel_rfl) (by exact fun _ _ _ h => h) (Or.inl ⟨by rfl, ?hq1_9⟩) hHeld ?rq1_9
          case hq1_9 => (intro w hSw; (try dsimp only at hSw); go_simp; (try with_reducible rfl))
          try simp only [put_laws]
          refine wpAnyH_take (i := 10) (v := undef) (by simp only [List.getElem?_toArray, List.getElem?_cons_succ, List.getElem?_cons_zero]; rfl) (by kernel_rfl) (by kernel_rfl) (by kernel_rfl) (by exact fun _ _ _ h => h) (Or.inr ⟨by rfl, rfl⟩) hHeld ?_
          try simp only [put_laws]
          refine wpAnyH_take (i := 11) (v := undef) (by simp only [List.getElem?_toArray, List.getElem?_cons_succ, List.getElem?_cons_zero]; rfl) (by kernel_rfl) (by kernel_rfl) (by kernel_rfl) (by exact fun _ _ _ h => h) (Or.inr ⟨by rfl, rfl⟩) hHeld ?_
          try simp only [put_laws]
          refine wpAnyH_take (i := 12) (v := undef) (by simp only [List.getElem?_toArray, List.getElem?_cons_succ, List.getElem?_cons_zero]; rfl) (by kernel_rfl) (by kernel_rfl) (by kernel_rfl) (by exact fun _ _ _ h => h) (Or.inr ⟨by rfl, rfl⟩) hHeld ?_
          try simp only [put_laws]
          refine wpAnyH_take (i := 13) (v := undef) (by simp only [List.getElem?_toArray, List.getElem?_cons_succ, List.getElem?_cons_zero]; rfl) (by kernel_rfl) (by kernel_rfl) (by kernel_rfl) (by exact fun _ _ _ h => h) (Or.inr ⟨by rfl, rfl⟩) hHeld ?_
          try simp only [put_laws]
          refine wpAnyH_take (i := 14) (v := ?vq1_14) (by simp only [List.getElem?_toArray, List.getElem?_cons_succ, List.getElem?_cons_zero]; rfl) (by kernel_rfl) (by kernel_rfl) (by kernel_rfl) (by exact fun _ _ _ h => h) (Or.inl ⟨by rfl, ?hq1_14⟩) hHeld ?rq1_14
          case hq1_14 => (intro w hSw; (try dsimp only at hSw); go_simp; (try with_reducible rfl))
          try simp only [put_laws]
          refine wpAnyH_done (by kernel_rfl) ?_ _
          have hbK := hHeld.2.2.2.2.2.2.2
          have hbvK := hbv.below hbK
          go_wp2
          go_roundw
          case rel => exact ⟨k + 1, by omega, by go_num, by rw [kidsL_no (by rw [HCB.out, hfit.out]; rfl)]; exact hbvK, below_next hbw hbK⟩
          case measure => simp [intOf]; omega
        · have hfit := Lib.hid hf
          clear hf
          cases hh : hasB g (k : Int)
          · have hhas := Lib.hid hh
            clear hh
            go_wp2
            refine wp_region_held_drew (S := (fun w' => w'.cell? ⟨b, off + l * 4, none⟩ = some (.int .i64 x.f) ∧ w'.cell? ⟨b, off + l * 4 + 1, none⟩ = some (.int .i64 x.t) ∧ w'.cell? ⟨b, off + l * 4 + 2, none⟩ = some (.int .i64 x.r) ∧ w'.cell? ⟨b, off + l * 4 + 3, none⟩ = some (.int .i64 x.u) ∧ w'.cell? ⟨qb, qoff + k * 3, none⟩ = some (.int .i64 y.f) ∧ w'.cell? ⟨qb, qoff + k * 3 + 1, none⟩ = some (.int .i64 y.t) ∧ w'.cell? ⟨qb, qoff + k * 3 + 2, none⟩ = some (.int .i64 y.r) ∧ Below wo.heap.size wo w')) (by kernel_rfl) ?_ (fun hHeld => ?_)
            · (try dsimp only); (first | exact ⟨hc0, hc1, hc2, hc3, hd0, hd1, hd2, (Below.refl _ _).drew⟩ | exact hHeld | (obtain ⟨k1, k2, k3, k4, k5, k6, k7, k8⟩ := hHeld; exact ⟨(hb1.cell (Nat.lt_of_lt_of_le hb k8.size)).trans k1, (hb1.cell (Nat.lt_of_lt_of_le hb k8.size)).trans k2, (hb1.cell (Nat.lt_of_lt_of_le hb k8.size)).trans k3, (hb1.cell (Nat.lt_of_lt_of_le hb k8.size)).trans k4, (hb1.cell (Nat.lt_of_lt_of_le hqb k8.size)).trans k5, (hb1.cell (Nat.lt_of_lt_of_le hqb k8.size)).trans k6, (hb1.cell (Nat.lt_of_lt_of_le hqb k8.size)).trans k7, k8.trans (hb1.mono k8.size)⟩))
            refine wpAnyH_take (i := 0) (v := ?vq2_0) (by simp only [List.getElem?_toArray, List.getElem?_cons_zero]; rfl) (by kernel_rfl) (by kernel_rfl) (by kernel_rfl) (by exact fun _ _ _ h => h) (Or.inl ⟨by rfl, ?hq2_0⟩) hHeld ?rq2_0
            case hq2_0 => (intro w hSw; (try dsimp only at hSw); go_simp; (try with_reducible rfl))
            try simp only [put_laws]
            refine wpAnyH_take (i := 1) (v := ?vq2_1) (by simp only [List.getElem?_toArray, List.getElem?_cons_succ, List.getElem?_cons_zero]; rfl) (by kernel_rfl) (by kernel_rfl) (by kernel_rfl) (by exact fun _ _ _ h => h) (Or.inl ⟨by rfl, ?hq2_1⟩) hHeld ?rq2_1
            case hq2_1 => (intro w hSw; (try dsimp only at hSw); go_simp; (try with_reducible rfl))
            try simp only [put_laws]
            refine wpAnyH_take (i := 2) (v := ?vq2_2) (by simp only [List.getElem?_toArray, List.getElem?_cons_succ, List.getElem?_cons_zero]; rfl) (by kernel_rfl) (by kernel_rfl) (by kernel_rfl) (by exact fun _ _ _ h => h) (Or.inl ⟨by rfl, ?hq2_2⟩) hHeld ?rq2_2
            case hq2_2 => (intro w hSw; (try dsimp only at hSw); go_simp; (try with_reducible rfl))
            try simp only [put_laws]
            refine wpAnyH_take (i := 3) (v := ?vq2_3) (by simp only [List.getElem?_toArray, List.getElem?_cons_succ, List.getElem?_cons_zero]; rfl) (by kernel_rfl) (by kernel_rfl) (by kernel_rfl) (by exact fun _ _ _ h => h) (Or.inl ⟨by rfl, ?hq2_3⟩) hHeld ?rq2_3
            case hq2_3 => (intro w hSw; (try dsimp only at hSw); go_simp; (try with_reducible rfl))
            try simp only [put_laws]
            refine wpAnyH_take (i := 4) (v := ?vq2_4) (by simp only [List.getElem?_toArray, List.getElem?_cons_succ, List.getElem?_cons_zero]; rfl) (by kernel_rfl) (by kernel_rfl) (by kernel_rfl) (by exact fun _ _ _ h => h) (Or.inl ⟨by rfl, ?hq2_4⟩) hHeld ?rq2_4
            case hq2_4 => (intro w hSw; (try dsimp only at hSw); go_simp; (try with_reducible rfl))
            try simp only [put_laws]
            refine wpAnyH_take (i := 5) (v := ?vq2_5) (by simp only [List.getElem?_toArray, List.getElem?_cons_succ, List.getElem?_cons_zero]; rfl) (by kernel_rfl) (by kernel_rfl) (by kernel_rfl) (by exact fun _ _ _ h => h) (Or.inl ⟨by rfl, ?hq2_5⟩) hHeld ?rq2_5
            case hq2_5 => (intro w hSw; (try dsimp only at hSw); go_simp; (try with_reducible rfl))
            try simp only [put_laws]
            refine wpAnyH_take (i := 6) (v := ?vq2_6) (by simp only [List.getElem?_toArray, List.getElem?_cons_succ, List.getElem?_cons_zero]; rfl) (by kernel_rfl) (by kernel_rfl) (by kernel_rfl) (by exact fun _ _ _ h => h) (Or.inl ⟨by rfl, ?hq2_6⟩) hHeld ?rq2_6
            case hq2_6 => (intro w hSw; (try dsimp only at hSw); go_simp; (try with_reducible rfl))
            try simp only [put_laws]
            refine wpAnyH_take (i := 7) (v := ?vq2_7) (by simp only [List.getElem?_toArray, List.getElem?_cons_succ, List.getElem?_cons_zero]; rfl) (by kernel_rfl) (by kernel_rfl) (by kernel_rfl) (by exact fun _ _ _ h => h) (Or.inl ⟨by rfl, ?hq2_7⟩) hHeld ?rq2_7
            case hq2_7 => (intro w hSw; (try dsimp only at hSw); go_simp; (try with_reducible rfl))
            try simp only [put_laws]
            refine wpAnyH_ready (rs := [8]) (by kernel_rfl) (by simp) ?_
            refine AllReadyH.cons (by simp only [List.getElem?_toArray, List.getElem?_cons_succ, List.getElem?_cons_zero]; rfl) (fun K hK => ?_) AllReadyH.nil
            go_simp
            ((with_reducible refine (specFits_yes _ _ _ hfit.out).mono ?_); rintro e w1 ⟨rfl, hb1⟩)
            refine hK.out _ _ ?_ (fun hHeld => ?_)
            · (try dsimp only); (first | exact ⟨hc0, hc1, hc2, hc3, hd0, hd1, hd2, (Below.refl _ _).drew⟩ | exact hHeld | (obtain ⟨k1, k2, k3, k4, k5, k6, k7, k8⟩ := hHeld; exact ⟨(hb1.cell (Nat.lt_of_lt_of_le hb k8.size)).trans k1, (hb1.cell (Nat.lt_of_lt_of_le hb k8.size)).trans k2, (hb1.cell (Nat.lt_of_lt_of_le hb k8.size)).trans k3, (hb1.cell (Nat.lt_of_lt_of_le hb k8.size)).trans k4, (hb1.cell (Nat.lt_of_lt_of_le hqb k8.size)).trans k5, (hb1.cell (Nat.lt_of_lt_of_le hqb k8.size)).trans k6, (hb1.cell (Nat.lt_of_lt_of_le hqb k8.size)).trans k7, k8.trans (hb1.mono k8.size)⟩))
            clear hK K
            try simp only [put_laws]
            refine wpAnyH_take (i := 9) (v := ?vq2_9) (by simp only [List.getElem?_toArray, List.getElem?_cons_succ, List.getElem?_cons_zero]; rfl) (by kernel_rfl) (by kernel_rfl) (by kernel_rfl) (by exact fun _ _ _ h => h) (Or.inl ⟨by rfl, ?hq2_9⟩) hHeld ?rq2_9
            case hq2_9 => (intro w hSw; (try dsimp only at hSw); go_simp; (try with_reducible rfl))
            try simp only [put_laws]
            refine wpAnyH_take (i := 10) (v := ?vq2_10) (by simp only [List.getElem?_toArray, List.getElem?_cons_succ, List.getElem?_cons_zero]; rfl) (by kernel_rfl) (by kernel_rfl) (by kernel_rfl) (by exact fun _ _ _ h => h) (Or.inl ⟨by rfl, ?hq2_10⟩) hHeld ?rq2_10
            case hq2_10 => (intro w hSw; (try dsimp only at hSw); go_simp; (try with_reducible rfl))
            try simp only [put_laws]
            refine wpAnyH_take (i := 11) (v := ?vq2_11) (by simp only [List.getElem?_toArray, List.getElem?_cons_succ, List.getElem?_cons_zero]; rfl) (by kernel_rfl) (by kernel_rfl) (by kernel_rfl) (by exact fun _ _ _ h => h) (Or.inl ⟨by rfl, ?hq2_11⟩) hHeld ?rq2_11
            case hq2_11 => (intro w hSw; (try dsimp only at hSw); go_simp; (try with_reducible rfl))
            try simp only [put_laws]
            refine wpAnyH_ready (rs := [12]) (by kernel_rfl) (by simp) ?_
            refine AllReadyH.cons (by simp only [List.getElem?_toArray, List.getElem?_cons_succ, List.getElem?_cons_zero]; rfl) (fun K hK => ?_) AllReadyH.nil
            go_simp
            (have QA : IntsAt _ (some ⟨Gb, 0, none⟩) l g := (howno.below hHeld.2.2.2.2.2.2.2).slAt; (with_reducible refine (l1Has_no (some ⟨Gb, 0, none⟩) l gc g (k : Int) _ (by omega) QA hhas.out).mono ?_); rintro e w1 ⟨rfl, rfl⟩)
            refine hK.out _ _ ?_ (fun hHeld => ?_)
            · (try dsimp only); (first | exact ⟨hc0, hc1, hc2, hc3, hd0, hd1, hd2, (Below.refl _ _).drew⟩ | exact hHeld | (obtain ⟨k1, k2, k3, k4, k5, k6, k7, k8⟩ := hHeld; exact ⟨(hb1.cell (Nat.lt_of_lt_of_le hb k8.size)).trans k1, (hb1.cell (Nat.lt_of_lt_of_le hb k8.size)).trans k2, (hb1.cell (Nat.lt_of_lt_of_le hb k8.size)).trans k3, (hb1.cell (Nat.lt_of_lt_of_le hb k8.size)).trans k4, (hb1.cell (Nat.lt_of_lt_of_le hqb k8.size)).trans k5, (hb1.cell (Nat.lt_of_lt_of_le hqb k8.size)).trans k6, (hb1.cell (Nat.lt_of_lt_of_le hqb k8.size)).trans k7, k8.trans (hb1.mono k8.size)⟩))
            clear hK K
            try simp only [put_laws]
            refine wpAnyH_take (i := 13) (v := ?vq2_13) (by simp only [List.getElem?_toArray, List.getElem?_cons_succ, List.getElem?_cons_zero]; rfl) (by kernel_rfl) (by kernel_rfl) (by kernel_rfl) (by exact fun _ _ _ h => h) (Or.inl ⟨by rfl, ?hq2_13⟩) hHeld ?rq2_13
            case hq2_13 => (intro w hSw; (try dsimp only at hSw); go_simp; (try with_reducible rfl))
            try simp only [put_laws]
            refine wpAnyH_take (i := 14) (v := ?vq2_14) (by simp only [List.getElem?_toArray, List.getElem?_cons_succ, List.getElem?_cons_zero]; rfl) (by kernel_rfl) (by kernel_rfl) (by kernel_rfl) (by exact fun _ _ _ h => h) (Or.inl ⟨by rfl, ?hq2_14⟩) hHeld ?rq2_14
            case hq2_14 => (intro w hSw; (try dsimp only at hSw); go_simp; (try with_reducible rfl))
            try simp only [put_laws]
            refine wpAnyH_done (by kernel_rfl) ?_ _
            have hbK := hHeld.2.2.2.2.2.2.2
            have hbvK := hbv.below hbK
            have hgK := howno.below hbK
            have hbwK := below_next hbw hbK
            have hg8 := hgK.own
            rw [ic_flat] at hg8
            have HCY : Hid (candB cs ps g k = true) := Lib.hid (by rw [HCB.out, hfit.out, hhas.out]; rfl)
            have HOK2 := Lib.hid (candB_ok HOK.out HCY.out).1
            go_wp2_with (first
              | (at_builtin; refine wpList_copy rfl (.tmp 43) (.tmp 44) rfl hg8 rfl rfl (by omega) ?_; intro v5 w5 hown5 hb5)
              | (at_builtin; refine wpList_push rfl (.tmp 45) (.tmp 47) rfl hb5 hown5 (k : Int) rfl rfl (by omega) ?_; intro g6 cap6 w6 hown6 hb6))
            have hb16 := below_next hbwK hb6
            refine (IH.out (l + 1) (g ++ [(k : Int)]) g6 cap6 B w6 (Lib.hid (by rw [List.length_append, HGL.out]; rfl)) (Lib.hid (by have := HLN.out; omega)) HOK2 (by have := hb16.size; omega) (hx.below hb16) (hp.below hb16) ((own_ints hown6).base (by have := hbK.size; omega))).mono ?_
            rintro e w7 ⟨X, xc, rfl, hX, hb7⟩
            have hb17 := below_next hb16 hb7
            have hbv7 := (hbvK.below hb6).below hb7
            have hk1' := kidsL_yes (f := f) HCY.out
            have HKY := Lib.hid hk1'
            clear hk1' hown5 hown6 hb5
            have HCH := Lib.hid (bestL_ok f _ HOK2.out (by have h1 := HGL.out; have h2 := HLN.out; have h3 := hncs.out; simp; omega))
            cases hkl : kidsL cs ps f g k with
            | none =>
              rw [hkl] at hbv7 HKY
              obtain ⟨A0, c0, rfl⟩ := hbv7
              clear hkl
              go_wp2
              go_roundw
              case rel => exact ⟨k + 1, by omega, by go_num, by rw [HKY.out]; exact ⟨_, _, rfl, hX⟩, hb17⟩
              case measure => simp [intOf]; omega
            | some b0 =>
              have HB0 := Lib.hid (kidsL_ok HOK.out (f := f) (by have h1 := HGL.out; have h2 := HLN.out; have h3 := hncs.out; omega) k b0 hkl)
              rw [hkl] at hbv7 HKY
              obtain ⟨A0, c0, rfl, hO⟩ := hbv7
              clear hkl
              have hn0 : ((n : Int) == 0) = false := by simp; omega
              have hn1 : (n == 0) = false := by simp; omega
              have hn2 : ¬ n = 0 := by omega
              cases hbt : betterB cs ps (bestL cs ps f (g ++ [(k : Int)])) b0
              all_goals
                have HBT := Lib.hid hbt
                have HPK := Lib.hid (betterB_hid HCH.out HB0.out HBT)
                go_wp2_with fail
                refine (l3Better_any _ n c cs _ m pc ps X n xc _ A0 n c0 b0 _ HNC.out (hx.below hb17) (by omega) (hp.below hb17) hX.cap hX.slAt hO.cap hO.slAt).mono ?_; rintro e w8 ⟨rfl, hb8⟩
                rw [hbt]
                clear hbt
                go_wp2
              · go_roundw
                case rel => exact ⟨k + 1, by omega, by go_num, by rw [HKY.out, HPK.out]; exact ⟨_, _, rfl, hO.below hb8⟩, below_next hb17 hb8⟩
                case measure => simp [intOf]; omega
              · go_roundw
                case rel => exact ⟨k + 1, by omega, by go_num, by rw [HKY.out, HPK.out]; exact ⟨_, _, rfl, hX.below hb8⟩, below_next hb17 hb8⟩
                case measure => simp [intOf]; omega
          · have hhas := Lib.hid hh
            clear hh
            go_wp2
            refine wp_region_held_drew (S := (fun w' => w'.cell? ⟨b, off + l * 4, none⟩ = some (.int .i64 x.f) ∧ w'.cell? ⟨b, off + l * 4 + 1, none⟩ = some (.int .i64 x.t) ∧ w'.cell? ⟨b, off + l * 4 + 2, none⟩ = some (.int .i64 x.r) ∧ w'.cell? ⟨b, off + l * 4 + 3, none⟩ = some (.int .i64 x.u) ∧ w'.cell? ⟨qb, qoff + k * 3, none⟩ = some (.int .i64 y.f) ∧ w'.cell? ⟨qb, qoff + k * 3 + 1, none⟩ = some (.int .i64 y.t) ∧ w'.cell? ⟨qb, qoff + k * 3 + 2, none⟩ = some (.int .i64 y.r) ∧ Below wo.heap.size wo w')) (by kernel_rfl) ?_ (fun hHeld => ?_)
            · (try dsimp only); (first | exact ⟨hc0, hc1, hc2, hc3, hd0, hd1, hd2, (Below.refl _ _).drew⟩ | exact hHeld | (obtain ⟨k1, k2, k3, k4, k5, k6, k7, k8⟩ := hHeld; exact ⟨(hb1.cell (Nat.lt_of_lt_of_le hb k8.size)).trans k1, (hb1.cell (Nat.lt_of_lt_of_le hb k8.size)).trans k2, (hb1.cell (Nat.lt_of_lt_of_le hb k8.size)).trans k3, (hb1.cell (Nat.lt_of_lt_of_le hb k8.size)).trans k4, (hb1.cell (Nat.lt_of_lt_of_le hqb k8.size)).trans k5, (hb1.cell (Nat.lt_of_lt_of_le hqb k8.size)).trans k6, (hb1.cell (Nat.lt_of_lt_of_le hqb k8.size)).trans k7, k8.trans (hb1.mono k8.size)⟩))
            refine wpAnyH_take (i := 0) (v := ?vq3_0) (by simp only [List.getElem?_toArray, List.getElem?_cons_zero]; rfl) (by kernel_rfl) (by kernel_rfl) (by kernel_rfl) (by exact fun _ _ _ h => h) (Or.inl ⟨by rfl, ?hq3_0⟩) hHeld ?rq3_0
            case hq3_0 => (intro w hSw; (try dsimp only at hSw); go_simp; (try with_reducible rfl))
            try simp only [put_laws]
            refine wpAnyH_take (i := 1) (v := ?vq3_1) (by simp only [List.getElem?_toArray, List.getElem?_cons_succ, List.getElem?_cons_zero]; rfl) (by kernel_rfl) (by kernel_rfl) (by kernel_rfl) (by exact fun _ _ _ h => h) (Or.inl ⟨by rfl, ?hq3_1⟩) hHeld ?rq3_1
            case hq3_1 => (intro w hSw; (try dsimp only at hSw); go_simp; (try with_reducible rfl))
            try simp only [put_laws]
            refine wpAnyH_take (i := 2) (v := ?vq3_2) (by simp only [List.getElem?_toArray, List.getElem?_cons_succ, List.getElem?_cons_zero]; rfl) (by kernel_rfl) (by kernel_rfl) (by kernel_rfl) (by exact fun _ _ _ h => h) (Or.inl ⟨by rfl, ?hq3_2⟩) hHeld ?rq3_2
            case hq3_2 => (intro w hSw; (try dsimp only at hSw); go_simp; (try with_reducible rfl))
            try simp only [put_laws]
            refine wpAnyH_take (i := 3) (v := ?vq3_3) (by simp only [List.getElem?_toArray, List.getElem?_cons_succ, List.getElem?_cons_zero]; rfl) (by kernel_rfl) (by kernel_rfl) (by kernel_rfl) (by exact fun _ _ _ h => h) (Or.inl ⟨by rfl, ?hq3_3⟩) hHeld ?rq3_3
            case hq3_3 => (intro w hSw; (try dsimp only at hSw); go_simp; (try with_reducible rfl))
            try simp only [put_laws]
            refine wpAnyH_take (i := 4) (v := ?vq3_4) (by simp only [List.getElem?_toArray, List.getElem?_cons_succ, List.getElem?_cons_zero]; rfl) (by kernel_rfl) (by kernel_rfl) (by kernel_rfl) (by exact fun _ _ _ h => h) (Or.inl ⟨by rfl, ?hq3_4⟩) hHeld ?rq3_4
            case hq3_4 => (intro w hSw; (try dsimp only at hSw); go_simp; (try with_reducible rfl))
            try simp only [put_laws]
            refine wpAnyH_take (i := 5) (v := ?vq3_5) (by simp only [List.getElem?_toArray, List.getElem?_cons_succ, List.getElem?_cons_zero]; rfl) (by kernel_rfl) (by kernel_rfl) (by kernel_rfl) (by exact fun _ _ _ h => h) (Or.inl ⟨by rfl, ?hq3_5⟩) hHeld ?rq3_5
            case hq3_5 => (intro w hSw; (try dsimp only at hSw); go_simp; (try with_reducible rfl))
            try simp only [put_laws]
            refine wpAnyH_take (i := 6) (v := ?vq3_6) (by simp only [List.getElem?_toArray, List.getElem?_cons_succ, List.getElem?_cons_zero]; rfl) (by kernel_rfl) (by kernel_rfl) (by kernel_rfl) (by exact fun _ _ _ h => h) (Or.inl ⟨by rfl, ?hq3_6⟩) hHeld ?rq3_6
            case hq3_6 => (intro w hSw; (try dsimp only at hSw); go_simp; (try with_reducible rfl))
            try simp only [put_laws]
            refine wpAnyH_take (i := 7) (v := ?vq3_7) (by simp only [List.getElem?_toArray, List.getElem?_cons_succ, List.getElem?_cons_zero]; rfl) (by kernel_rfl) (by kernel_rfl) (by kernel_rfl) (by exact fun _ _ _ h => h) (Or.inl ⟨by rfl, ?hq3_7⟩) hHeld ?rq3_7
            case hq3_7 => (intro w hSw; (try dsimp only at hSw); go_simp; (try with_reducible rfl))
            try simp only [put_laws]
            refine wpAnyH_ready (rs := [8]) (by kernel_rfl) (by simp) ?_
            refine AllReadyH.cons (by simp only [List.getElem?_toArray, List.getElem?_cons_succ, List.getElem?_cons_zero]; rfl) (fun K hK => ?_) AllReadyH.nil
            go_simp
            ((with_reducible refine (specFits_yes _ _ _ hfit.out).mono ?_); rintro e w1 ⟨rfl, hb1⟩)
            refine hK.out _ _ ?_ (fun hHeld => ?_)
            · (try dsimp only); (first | exact ⟨hc0, hc1, hc2, hc3, hd0, hd1, hd2, (Below.refl _ _).drew⟩ | exact hHeld | (obtain ⟨k1, k2, k3, k4, k5, k6, k7, k8⟩ := hHeld; exact ⟨(hb1.cell (Nat.lt_of_lt_of_le hb k8.size)).trans k1, (hb1.cell (Nat.lt_of_lt_of_le hb k8.size)).trans k2, (hb1.cell (Nat.lt_of_lt_of_le hb k8.size)).trans k3, (hb1.cell (Nat.lt_of_lt_of_le hb k8.size)).trans k4, (hb1.cell (Nat.lt_of_lt_of_le hqb k8.size)).trans k5, (hb1.cell (Nat.lt_of_lt_of_le hqb k8.size)).trans k6, (hb1.cell (Nat.lt_of_lt_of_le hqb k8.size)).trans k7, k8.trans (hb1.mono k8.size)⟩))
            clear hK K
            try simp only [put_laws]
            refine wpAnyH_take (i := 9) (v := ?vq3_9) (by simp only [List.getElem?_toArray, List.getElem?_cons_succ, List.getElem?_cons_zero]; rfl) (by kernel_rfl) (by kernel_rfl) (by kernel_rfl) (by exact fun _ _ _ h => h) (Or.inl ⟨by rfl, ?hq3_9⟩) hHeld ?rq3_9
            case hq3_9 => (intro w hSw; (try dsimp only at hSw); go_simp; (try with_reducible rfl))
            try simp only [put_laws]
            refine wpAnyH_take (i := 10) (v := ?vq3_10) (by simp only [List.getElem?_toArray, List.getElem?_cons_succ, List.getElem?_cons_zero]; rfl) (by kernel_rfl) (by kernel_rfl) (by kernel_rfl) (by exact fun _ _ _ h => h) (Or.inl ⟨by rfl, ?hq3_10⟩) hHeld ?rq3_10
            case hq3_10 => (intro w hSw; (try dsimp only at hSw); go_simp; (try with_reducible rfl))
            try simp only [put_laws]
            refine wpAnyH_take (i := 11) (v := ?vq3_11) (by simp only [List.getElem?_toArray, List.getElem?_cons_succ, List.getElem?_cons_zero]; rfl) (by kernel_rfl) (by kernel_rfl) (by kernel_rfl) (by exact fun _ _ _ h => h) (Or.inl ⟨by rfl, ?hq3_11⟩) hHeld ?rq3_11
            case hq3_11 => (intro w hSw; (try dsimp only at hSw); go_simp; (try with_reducible rfl))
            try simp only [put_laws]
            refine wpAnyH_ready (rs := [12]) (by kernel_rfl) (by simp) ?_
            refine AllReadyH.cons (by simp only [List.getElem?_toArray, List.getElem?_cons_succ, List.getElem?_cons_zero]; rfl) (fun K hK => ?_) AllReadyH.nil
            go_simp
            (have QA : IntsAt _ (some ⟨Gb, 0, none⟩) l g := (howno.below hHeld.2.2.2.2.2.2.2).slAt; (with_reducible refine (l1Has_yes (some ⟨Gb, 0, none⟩) l gc g (k : Int) _ (by omega) QA hhas.out).mono ?_); rintro e w1 ⟨rfl, rfl⟩)
            refine hK.out _ _ ?_ (fun hHeld => ?_)
            · (try dsimp only); (first | exact ⟨hc0, hc1, hc2, hc3, hd0, hd1, hd2, (Below.refl _ _).drew⟩ | exact hHeld | (obtain ⟨k1, k2, k3, k4, k5, k6, k7, k8⟩ := hHeld; exact ⟨(hb1.cell (Nat.lt_of_lt_of_le hb k8.size)).trans k1, (hb1.cell (Nat.lt_of_lt_of_le hb k8.size)).trans k2, (hb1.cell (Nat.lt_of_lt_of_le hb k8.size)).trans k3, (hb1.cell (Nat.lt_of_lt_of_le hb k8.size)).trans k4, (hb1.cell (Nat.lt_of_lt_of_le hqb k8.size)).trans k5, (hb1.cell (Nat.lt_of_lt_of_le hqb k8.size)).trans k6, (hb1.cell (Nat.lt_of_lt_of_le hqb k8.size)).trans k7, k8.trans (hb1.mono k8.size)⟩))
            clear hK K
            try simp only [put_laws]
            refine wpAnyH_take (i := 13) (v := ?vq3_13) (by simp only [List.getElem?_toArray, List.getElem?_cons_succ, List.getElem?_cons_zero]; rfl) (by kernel_rfl) (by kernel_rfl) (by kernel_rfl) (by exact fun _ _ _ h => h) (Or.inl ⟨by rfl, ?hq3_13⟩) hHeld ?rq3_13
            case hq3_13 => (intro w hSw; (try dsimp only at hSw); go_simp; (try with_reducible rfl))
            try simp only [put_laws]
            refine wpAnyH_take (i := 14) (v := ?vq3_14) (by simp only [List.getElem?_toArray, List.getElem?_cons_succ, List.getElem?_cons_zero]; rfl) (by kernel_rfl) (by kernel_rfl) (by kernel_rfl) (by exact fun _ _ _ h => h) (Or.inl ⟨by rfl, ?hq3_14⟩) hHeld ?rq3_14
            case hq3_14 => (intro w hSw; (try dsimp only at hSw); go_simp; (try with_reducible rfl))
            try simp only [put_laws]
            refine wpAnyH_done (by kernel_rfl) ?_ _
            have hbK := hHeld.2.2.2.2.2.2.2
            have hbvK := hbv.below hbK
            go_wp2
            go_roundw
            case rel => exact ⟨k + 1, by omega, by go_num, by rw [kidsL_no (by rw [HCB.out, hfit.out, hhas.out]; rfl)]; exact hbvK, below_next hbw hbK⟩
            case measure => simp [intOf]; omega
      · have hkm : k = ps.length := by have := hmps.out; omega
        have HKM := Lib.hid hkm
        obtain ⟨x, b, off, HX, rfl, -, -, -, -, -⟩ := (hx.below hbw).get hln
        have HXG : Hid (cs[g.length]? = some x) := Lib.hid (by rw [HGL.out]; exact HX.out)
        have hg8 := howno.own
        rw [ic_flat] at hg8
        have HOK2 := Lib.hid (HOK.out.none HXG)
        have hbs1 : ∀ w : World, (Instr.buildSlice 27 1 #[(0, .int .i64 (-1))]).run Tryd.prog w = .ok (.slice (some ⟨w.heap.size, 0, none⟩) 1 1) (w.alloc (.cells #[.int .i64 (-1)] 3)) := fun _ => by kernel_rfl
        go_wp2_with (first
          | (at_builtin; refine wpList_copy rfl (.tmp 63) (.tmp 64) rfl hg8 rfl rfl (by omega) ?_; intro v5 w5 hown5 hb5)
          | (at_builtin; refine wpList_push rfl (.tmp 65) (.tmp 66) rfl hb5 hown5 (-1) rfl rfl (by omega) ?_; intro g6 cap6 w6 hown6 hb6))
        have hb16 := below_next hbw hb6
        refine (IH.out (l + 1) (g ++ [-1]) g6 cap6 B w6 (Lib.hid (by rw [List.length_append, HGL.out]; rfl)) (Lib.hid (by have := HLN.out; omega)) HOK2 (by have := hb16.size; omega) (hx.below hb16) (hp.below hb16) ((own_ints hown6).base hBo)).mono ?_
        rintro e w7 ⟨X, xc, rfl, hX, hb7⟩
        have hb17 := below_next hb16 hb7
        have hbv7 := (hbv.below hb6).below hb7
        have hk1' : bestL cs ps (f + 1) g = pick cs ps (kidsL cs ps f g k) (bestL cs ps f (g ++ [-1])) := by rw [HKM.out]; rfl
        have HKY := Lib.hid hk1'
        clear hk1' hown5 hown6 hb5 hkm hbs1
        have HCH := Lib.hid (bestL_ok f _ HOK2.out (by have h1 := HGL.out; have h2 := HLN.out; have h3 := hncs.out; simp; omega))
        cases hkl : kidsL cs ps f g k with
        | none =>
          rw [hkl] at hbv7 HKY
          obtain ⟨A0, c0, rfl⟩ := hbv7
          clear hkl
          go_wp2
          go_ret
          exact ⟨_, _, rfl, by rw [HKY.out]; exact hX, hb17⟩
        | some b0 =>
          have HB0 := Lib.hid (kidsL_ok HOK.out (f := f) (by have h1 := HGL.out; have h2 := HLN.out; have h3 := hncs.out; omega) k b0 hkl)
          rw [hkl] at hbv7 HKY
          obtain ⟨A0, c0, rfl, hO⟩ := hbv7
          clear hkl
          have hn0 : ((n : Int) == 0) = false := by simp; omega
          have hn1 : (n == 0) = false := by simp; omega
          have hn2 : ¬ n = 0 := by omega
          cases hbt : betterB cs ps (bestL cs ps f (g ++ [-1])) b0
          all_goals
            have HBT := Lib.hid hbt
            have HPK := Lib.hid (betterB_hid HCH.out HB0.out HBT)
            go_wp2_with fail
            refine (l3Better_any _ n c cs _ m pc ps X n xc _ A0 n c0 b0 _ HNC.out (hx.below hb17) (by omega) (hp.below hb17) hX.cap hX.slAt hO.cap hO.slAt).mono ?_; rintro e w8 ⟨rfl, hb8⟩
            rw [hbt]
            clear hbt
            go_wp2
            go_ret
          · exact ⟨_, _, rfl, by rw [HKY.out, HPK.out]; exact hO.below hb8, below_next hb17 hb8⟩
          · exact ⟨_, _, rfl, by rw [HKY.out, HPK.out]; exact hX.below hb8, below_next hb17 hb8⟩

theorem bestAll_cars {cs : List C4} {ps : List P3} (h : carsB cs = false) : bestAll cs ps = [] := by simp [bestAll, h]
theorem bestAll_places {cs : List C4} {ps : List P3} (h : placesB ps = false) : bestAll cs ps = [] := by simp [bestAll, h]
theorem bestAll_yes {cs : List C4} {ps : List P3} (h1 : carsB cs = true) (h2 : placesB ps = true) : bestAll cs ps = bestL cs ps cs.length [] := by simp [bestAll, h1, h2]

set_option maxHeartbeats 2000000 in
theorem specGiveBest_any (A : Option Addr) (n c : Nat) (cs : List C4) (P : Option Addr) (m pc : Nat) (ps : List P3) (w : World)
    (hn : n ≤ c ∧ c ≤ 9223372036854775807) (hx : CarsAt w A n cs) (hm : m ≤ 9223372036854775807) (hp : PlacesAt w P m ps) :
    Calls Tryd.prog 34 #[.slice A n c, .slice P m pc] w (OwnR w (bestAll cs ps)) := by
  have HL := Lib.hid hx.len
  have HM := Lib.hid hp.len
  have HN := Lib.hid hn
  have hbs : ∀ w : World, (Instr.buildSlice 27 0 #[]).run Tryd.prog w = .ok (.slice (some ⟨w.heap.size, 0, none⟩) 0 0) (w.alloc (.cells #[] 3)) := fun _ => by kernel_rfl
  cases hC : carsB cs
  · have HC := Lib.hid hC
    go_enter Tryd.func34, Tryd.ntmps34
    go_wp2_with fail
    refine (specCarsValid_any A n c cs _ HN.out hx).mono ?_; rintro e w1 ⟨rfl, hb1⟩
    go_wp2
    go_ret
    exact ownR_empty hb1 (bestAll_cars HC.out)
  have HC := Lib.hid hC
  cases hP : placesB ps
  · have HP := Lib.hid hP
    go_enter Tryd.func34, Tryd.ntmps34
    go_wp2_with fail
    refine (specCarsValid_any A n c cs _ HN.out hx).mono ?_; rintro e w1 ⟨rfl, hb1⟩
    go_wp2_with fail
    refine (specPlacesValid_any P m pc ps _ hm (hp.below hb1)).mono ?_; rintro e w2 ⟨rfl, hb2⟩
    go_wp2
    go_ret
    exact ownR_empty (below_next hb1 hb2) (bestAll_places HP.out)
  have HP := Lib.hid hP
  go_enter Tryd.func34, Tryd.ntmps34
  go_wp2_with fail
  refine (specCarsValid_any A n c cs _ HN.out hx).mono ?_; rintro e w1 ⟨rfl, hb1⟩
  go_wp2_with fail
  refine (specPlacesValid_any P m pc ps _ hm (hp.below hb1)).mono ?_; rintro e w2 ⟨rfl, hb2⟩
  have hb0 := below_next hb1 hb2
  have hbe : Below w2.heap.size w2 (w2.alloc (.cells #[] 3)) := (Below.refl _ _).alloc (Nat.le_refl _) _
  have hb3 := below_next hb0 hbe
  go_wp2_with fail
  refine (l3Best_any A n c cs P m pc ps HN.out HL HM n 0 [] w2.heap.size 0 w.heap.size _ rfl (Lib.hid (by omega)) (Lib.hid (okPre_nil HC.out HP.out)) hb3.size (hx.below hb3) (hp.below hb3) (own_ints (own_empty hb0.size))).mono ?_; rintro e w3 ⟨X, xc, rfl, hX, hb4⟩
  go_wp2
  go_ret
  refine ownR_mk rfl ?_ (below_next hb3 hb4)
  rw [bestAll_yes HC.out HP.out, HL.out]
  exact hX
end Go.Proofs.YtmmaeninlhbaaaaDoor
