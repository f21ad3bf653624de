/-
  PlanValid of the program and of the reference.
-/
import Derived.Test.YtnhcjbebfddcdaaNeeds
import Derived.Test.YtnhcjbebfddcdaaPlanHelp
namespace Go.Proofs.Ytnhcjbebfddcdaa
open Go.ChangeShapes Go.WideShapes Go.ChangeAt Go.RowKit

/-- One row of a plan is right for a need. -/
def rowOk (x : N4) (r : List Int) : Prop := r.length = 6 ∧ (∀ h : Nat, h < 6 → 0 ≤ r.getD h 0 ∧ r.getD h 0 ≤ rateI x.f x.t x.r x.u (h : Int)) ∧ sumW r ≤ x.u
def planOk (ns : List N4) (feed : List Int) (rows : List (List Int)) : Prop :=
  needsB ns = true ∧ feedB feed = true ∧ rows.length = ns.length ∧ (∀ (k : Nat) (x : N4) (r : List Int), ns[k]? = some x → rows[k]? = some r → rowOk x r) ∧ ∀ h : Nat, h < 6 → loadW (h : Int) rows ≤ feed.getD h 0
/-- The call answers whether the plan is right. -/
def PlanR (ns : List N4) (feed : List Int) (rows : List (List Int)) (w : World) (e : Ending) (w' : World) : Prop := ∃ b : Bool, e = .returned (.bool b) ∧ (b = true ↔ planOk ns feed rows) ∧ Below w.heap.size w w'
theorem planR_no {ns : List N4} {feed : List Int} {rows : List (List Int)} {w w' : World} (h : ¬ planOk ns feed rows) (hb : Below w.heap.size w w') : PlanR ns feed rows w (.returned (.bool false)) w' := ⟨false, rfl, by simp [h], hb⟩
theorem planR_yes {ns : List N4} {feed : List Int} {rows : List (List Int)} {w w' : World} (h : planOk ns feed rows) (hb : Below w.heap.size w w') : PlanR ns feed rows w (.returned (.bool true)) w' := ⟨true, rfl, by simp [h], hb⟩
theorem iff_same {P : Prop} {a b : Bool} (h : a = true ↔ P) (h' : b = true ↔ P) : a = b := by
  rw [Bool.eq_iff_iff]; exact h.trans h'.symm
theorem getD_at {xs : List Int} {k : Nat} {x : Int} (h : Hid (xs[k]? = some x)) : xs.getD k 0 = x := by
  have h' := h.out
  simp [List.getD_eq_getElem?_getD, h']

theorem rateIn_w (x : N4) (h : Int) (w : World) :
    Calls Try.prog 64 #[.agg #[.int .i64 x.f, .int .i64 x.t, .int .i64 x.r, .int .i64 x.u], .int .i64 h] w (RV w (.int .i64 (rateI x.f x.t x.r x.u h))) := rateIn_any _ _ _ _ _ _

set_option maxHeartbeats 4000000 in
theorem planValid_any (A : Option Addr) (n c : Nat) (ns : List N4) (F : Option Addr) (m fc : Nat) (feed : List Int) (G : Option Addr) (l gc : Nat) (rows : List (List Int)) (w : World)
    (hn : n ≤ 9223372036854775807) (hx : NeedsAt w A n ns) (hm : m ≤ 9223372036854775807) (hf : IntsAt w F m feed) (hl : l ≤ 9223372036854775807) (hg : RowsAt w G l rows) :
    Calls Try.prog 42 #[.slice A n c, .slice F m fc, .slice G l gc] w (PlanR ns feed rows w) := by
  cases hN : needsB ns
  · have HN := Lib.hid hN
    go_enter Try.func42, Try.ntmps42
    go_wp2_with fail
    refine (needsValid_any A n c ns _ hn hx).mono ?_; rintro e w1 ⟨rfl, hb1⟩
    go_wp2
    go_ret
    exact planR_no (fun h => by have h1 := h.1; rw [HN.out] at h1; cases h1) hb1
  have HN := Lib.hid hN
  cases hF : feedB feed
  · have HF := Lib.hid hF
    go_enter Try.func42, Try.ntmps42
    go_wp2_with fail
    refine (needsValid_any A n c ns _ hn hx).mono ?_; rintro e w1 ⟨rfl, hb1⟩
    go_wp2_with fail
    refine (feedValid_any F m fc feed _ hm (hf.below hb1)).mono ?_; rintro e w2 ⟨rfl, rfl⟩
    go_wp2
    go_ret
    exact planR_no (fun h => by have h1 := h.2.1; rw [HF.out] at h1; cases h1) hb1
  have HF := Lib.hid hF
  have HL := Lib.hid hx.len
  have HLf := Lib.hid hf.len
  have HLg := Lib.hid hg.len
  by_cases hln : l = n
  · subst hln
    have hm6 : m = 6 := by have := (feedB_small HF.out).1; have := hf.len; omega
    subst hm6
    have hn5 : l ≤ 5 := by have := (needsB_ok HN.out).1; have := hx.len; omega
    go_enter Try.func42, Try.ntmps42
    go_wp2_with fail
    refine (needsValid_any A _ c ns _ hn hx).mono ?_; rintro e w1 ⟨rfl, hb1⟩
    go_wp2_with fail
    refine (feedValid_any F _ fc feed _ hm (hf.below hb1)).mono ?_; rintro e w2 ⟨rfl, rfl⟩
    go_wp2
    clear hN hF
    go_loopw [30] (fun i wr => ∃ k : Nat, k ≤ l ∧ i = .int .i64 k ∧ (∀ (j : Nat) (x : N4) (r : List Int), j < k → ns[j]? = some x → rows[j]? = some r → rowOk x r) ∧ Below w.heap.size w wr) (fun i _ => l - (intOf i).toNat)
    case atStart => exact ⟨0, Nat.zero_le _, rfl, fun j x r h => absurd h (by omega), hb1⟩
    case round =>
      obtain ⟨k, hk, rfl, hall, hbw⟩ := hrel
      have HA := Lib.hid hall
      clear hall
      obtain ⟨wo, rfl⟩ : ∃ wo : World, wo = wr := ⟨_, rfl⟩
      by_cases hlt : k < l
      · obtain ⟨r, b, off, A', c', q, HR, Hq, rfl, hb, hc, hir, hq⟩ := (hg.below hbw).get hlt
        obtain ⟨x, b2, off2, HX, rfl, hb2, hc0, hc1, hc2, hc3⟩ := (hx.below hbw).get hlt
        have hk0 : (0 : Int) ≤ (k : Int) := by omega
        have hk1 : (k : Int) < (l : Int) := by omega
        by_cases hq6 : q = 6
        · subst hq6
          go_wp2
          go_loopw [40] (fun i wr => ∃ h : Nat, h ≤ 6 ∧ i = .int .i64 h ∧ (∀ j : Nat, j < h → 0 ≤ r.getD j 0 ∧ r.getD j 0 ≤ rateI x.f x.t x.r x.u (j : Int)) ∧ Below wo.heap.size wo wr) (fun i _ => 6 - (intOf i).toNat)
          case atStart => exact ⟨0, Nat.zero_le _, rfl, fun j h => absurd h (by omega), Below.refl _ _⟩
          case round =>
            obtain ⟨h, hh, rfl, hrow, hbi⟩ := hrel
            have HB := Lib.hid hrow
            clear hrow
            have hd0 := (hbi.cell (p := ⟨b2, off2 + k * 4, none⟩) hb2).trans hc0
            have hd1 := (hbi.cell (p := ⟨b2, off2 + k * 4 + 1, none⟩) hb2).trans hc1
            have hd2 := (hbi.cell (p := ⟨b2, off2 + k * 4 + 2, none⟩) hb2).trans hc2
            have hd3 := (hbi.cell (p := ⟨b2, off2 + k * 4 + 3, none⟩) hb2).trans hc3
            by_cases hh6 : h < 6
            · obtain ⟨y, b3, off3, HY, rfl, hb3, hc4⟩ := (hir.below hbi).get hh6
              by_cases hy0 : y < 0
              · go_wp2
                go_ret
                refine planR_no (fun hp => ?_) (hbw.trans (hbi.mono hbw.size))
                have h1 := ((hp.2.2.2.1 k x r HX.out HR.out).2.1 h hh6).1
                rw [getD_at HY] at h1; omega
              · obtain ⟨z, HZ⟩ : ∃ z, Hid (z = rateI x.f x.t x.r x.u (h : Int)) := ⟨_, rfl⟩
                by_cases hyz : z < y
                · go_wp2_with fail
                  refine (rateIn_any _ _ _ _ _ _).mono ?_; rintro e w3 ⟨rfl, hb3'⟩
                  rw [← HZ.out]
                  go_wp2
                  go_ret
                  refine planR_no (fun hp => ?_) (below_next (hbw.trans (hbi.mono hbw.size)) hb3')
                  have h1 := ((hp.2.2.2.1 k x r HX.out HR.out).2.1 h hh6).2
                  rw [getD_at HY, ← HZ.out] at h1; omega
                · go_wp2_with fail
                  refine (rateIn_any _ _ _ _ _ _).mono ?_; rintro e w3 ⟨rfl, hb3'⟩
                  rw [← HZ.out]
                  go_wp2
                  go_roundw
                  case rel =>
                    refine ⟨h + 1, by omega, by go_num, fun j hj => ?_, below_next hbi hb3'⟩
                    rcases Nat.lt_or_ge j h with h2 | h2
                    · exact HB.out j h2
                    · have : j = h := by omega
                      subst this
                      rw [getD_at HY, ← HZ.out]; omega
                  case measure => simp [intOf]; omega
            · obtain rfl : h = 6 := by omega
              obtain ⟨s, HS⟩ : ∃ s, Hid (s = sumW r) := ⟨_, rfl⟩
              by_cases hsu : x.u < s
              all_goals
                go_wp2
                go_region_held3 (fun w' => w'.cell? ⟨b2, off2 + k * 4 + 3, none⟩ = some (.int .i64 x.u) ∧ Below wr.heap.size wr w')
                  (first | exact ⟨hd3, (Below.refl _ _).drew⟩ | assumption)
                  (first | (go_at_call 59; refine (planUnits_any _ _ _ _ _ hq ((hir.below hbi).below ((Below.refl _ _).drew))).mono ?_; rintro e w3 ⟨rfl, rfl⟩; rw [← HS.out]))
                go_wp2
              · go_ret
                refine planR_no (fun hp => ?_) ((hbw.trans (hbi.mono hbw.size)).drew)
                have h1 := (hp.2.2.2.1 k x r HX.out HR.out).2.2
                rw [← HS.out] at h1; omega
              · go_roundw
                case rel =>
                  refine ⟨k + 1, by omega, by go_num, fun j x' r' hj hx' hr' => ?_, (hbw.trans (hbi.mono hbw.size)).drew⟩
                  rcases Nat.lt_or_ge j k with h2 | h2
                  · exact HA.out j x' r' h2 hx' hr'
                  · have : j = k := by omega
                    subst this
                    have e1 := HX.out
                    have e2 := HR.out
                    rw [hx'] at e1; rw [hr'] at e2
                    injection e1 with e1; injection e2 with e2
                    subst e1; subst e2
                    exact ⟨Hq.out, fun j hj => HB.out j hj, by rw [← HS.out]; omega⟩
                case measure => simp [intOf]; omega
        · have hq6' : ¬ (q : Int) = 6 := by omega
          go_wp2
          go_ret
          refine planR_no (fun hp => ?_) (hbw)
          have h1 := (hp.2.2.2.1 k x r HX.out HR.out).1
          rw [Hq.out] at h1; omega
      · go_wp2
        go_loopw [69] (fun i wr => ∃ h : Nat, h ≤ 6 ∧ i = .int .i64 h ∧ (∀ j : Nat, j < h → loadW (j : Int) rows ≤ feed.getD j 0) ∧ wr = wo) (fun i _ => 6 - (intOf i).toNat)
        case atStart => exact ⟨0, Nat.zero_le _, rfl, fun j h => absurd h (by omega), rfl⟩
        case round =>
          obtain ⟨h, hh, rfl, hld, rfl⟩ := hrel
          have HB := Lib.hid hld
          clear hld
          by_cases hh6 : h < 6
          · obtain ⟨y, b3, off3, HY, rfl, hb3, hc4⟩ := (hf.below hbw).get hh6
            obtain ⟨z, HZ⟩ : ∃ z, Hid (z = loadW (h : Int) rows) := ⟨_, rfl⟩
            by_cases hyz : y < z
            all_goals
              go_wp2_with fail
              refine (planLoad_any _ _ _ rows _ _ hl (hg.below hbw)).mono ?_; rintro e w3 ⟨rfl, rfl⟩
              rw [← HZ.out]
              go_wp2
            · go_ret
              refine planR_no (fun hp => ?_) (hbw)
              have h1 := hp.2.2.2.2 h hh6
              rw [getD_at HY, ← HZ.out] at h1; omega
            · go_roundw
              case rel =>
                refine ⟨h + 1, by omega, by go_num, fun j hj => ?_, (by first | rfl | trivial)⟩
                rcases Nat.lt_or_ge j h with h2 | h2
                · exact HB.out j h2
                · have : j = h := by omega
                  subst this
                  rw [getD_at HY, ← HZ.out]; omega
              case measure => simp [intOf]; omega
          · go_wp2
            go_ret
            refine planR_yes ⟨HN.out, HF.out, by rw [HLg.out, HL.out], fun j x r hx' hr' => HA.out j x r ?_ hx' hr', fun j hj => HB.out j (by omega)⟩ hbw
            have := (List.getElem?_eq_some_iff.1 hx').1
            have := HL.out
            omega
  · have hln' : ((l : Int) == (n : Int)) = false := by simp; omega
    have hln2 : ¬ (l : Int) = n := by omega
    go_enter Try.func42, Try.ntmps42
    go_wp2_with fail
    refine (needsValid_any A n c ns _ hn hx).mono ?_; rintro e w1 ⟨rfl, hb1⟩
    go_wp2_with fail
    refine (feedValid_any F m fc feed _ hm (hf.below hb1)).mono ?_; rintro e w2 ⟨rfl, rfl⟩
    go_wp2
    go_ret
    refine planR_no (fun hp => ?_) (hb1)
    have h1 := hp.2.2.1
    rw [HLg.out, HL.out] at h1; omega

set_option maxHeartbeats 4000000 in
theorem specPlanValid_any (A : Option Addr) (n c : Nat) (ns : List N4) (F : Option Addr) (m fc : Nat) (feed : List Int) (G : Option Addr) (l gc : Nat) (rows : List (List Int)) (w : World)
    (hn : n ≤ 9223372036854775807) (hx : NeedsAt w A n ns) (hm : m ≤ 9223372036854775807) (hf : IntsAt w F m feed) (hl : l ≤ 9223372036854775807) (hg : RowsAt w G l rows) :
    Calls Try.prog 41 #[.slice A n c, .slice F m fc, .slice G l gc] w (PlanR ns feed rows w) := by
  cases hN : needsB ns
  · have HN := Lib.hid hN
    go_enter Try.func41, Try.ntmps41
    go_wp2_with fail
    refine (specNeedsValid_any A n c ns _ hn hx).mono ?_; rintro e w1 ⟨rfl, hb1⟩
    go_wp2
    go_ret
    exact planR_no (fun h => by have h1 := h.1; rw [HN.out] at h1; cases h1) hb1
  have HN := Lib.hid hN
  cases hF : feedB feed
  · have HF := Lib.hid hF
    go_enter Try.func41, Try.ntmps41
    go_wp2_with fail
    refine (specNeedsValid_any A n c ns _ hn hx).mono ?_; rintro e w1 ⟨rfl, hb1⟩
    go_wp2_with fail
    refine (specFeedValid_any F m fc feed _ hm (hf.below hb1)).mono ?_; rintro e w2 ⟨rfl, rfl⟩
    go_wp2
    go_ret
    exact planR_no (fun h => by have h1 := h.2.1; rw [HF.out] at h1; cases h1) hb1
  have HF := Lib.hid hF
  have HL := Lib.hid hx.len
  have HLf := Lib.hid hf.len
  have HLg := Lib.hid hg.len
  by_cases hln : l = n
  · subst hln
    have hm6 : m = 6 := by have := (feedB_small HF.out).1; have := hf.len; omega
    subst hm6
    have hn5 : l ≤ 5 := by have := (needsB_ok HN.out).1; have := hx.len; omega
    go_enter Try.func41, Try.ntmps41
    go_wp2_with fail
    refine (specNeedsValid_any A _ c ns _ hn hx).mono ?_; rintro e w1 ⟨rfl, hb1⟩
    go_wp2_with fail
    refine (specFeedValid_any F _ fc feed _ hm (hf.below hb1)).mono ?_; rintro e w2 ⟨rfl, rfl⟩
    go_wp2
    clear hN hF
    go_loopw [7] (fun i wr => ∃ k : Nat, k ≤ l ∧ i = .int .i64 k ∧ (∀ (j : Nat) (x : N4) (r : List Int), j < k → ns[j]? = some x → rows[j]? = some r → rowOk x r) ∧ Below w.heap.size w wr) (fun i _ => l - (intOf i).toNat)
    case atStart => exact ⟨0, Nat.zero_le _, rfl, fun j x r h => absurd h (by omega), hb1⟩
    case round =>
      obtain ⟨k, hk, rfl, hall, hbw⟩ := hrel
      have HA := Lib.hid hall
      clear hall
      obtain ⟨wo, rfl⟩ : ∃ wo : World, wo = wr := ⟨_, rfl⟩
      by_cases hlt : k < l
      · obtain ⟨r, b, off, A', c', q, HR, Hq, rfl, hb, hc, hir, hq⟩ := (hg.below hbw).get hlt
        obtain ⟨x, b2, off2, HX, rfl, hb2, hc0, hc1, hc2, hc3⟩ := (hx.below hbw).get hlt
        have hk0 : (0 : Int) ≤ (k : Int) := by omega
        have hk1 : (k : Int) < (l : Int) := by omega
        by_cases hq6 : q = 6
        · subst hq6
          go_wp2
          go_loopw [8] (fun i wr => ∃ h : Nat, h ≤ 6 ∧ i = .int .i64 h ∧ (∀ j : Nat, j < h → 0 ≤ r.getD j 0 ∧ r.getD j 0 ≤ rateI x.f x.t x.r x.u (j : Int)) ∧ Below wo.heap.size wo wr) (fun i _ => 6 - (intOf i).toNat)
          case atStart => exact ⟨0, Nat.zero_le _, rfl, fun j h => absurd h (by omega), Below.refl _ _⟩
          case round =>
            obtain ⟨h, hh, rfl, hrow, hbi⟩ := hrel
            have HB := Lib.hid hrow
            clear hrow
            have hd0 := (hbi.cell (p := ⟨b2, off2 + k * 4, none⟩) hb2).trans hc0
            have hd1 := (hbi.cell (p := ⟨b2, off2 + k * 4 + 1, none⟩) hb2).trans hc1
            have hd2 := (hbi.cell (p := ⟨b2, off2 + k * 4 + 2, none⟩) hb2).trans hc2
            have hd3 := (hbi.cell (p := ⟨b2, off2 + k * 4 + 3, none⟩) hb2).trans hc3
            by_cases hh6 : h < 6
            · obtain ⟨y, b3, off3, HY, rfl, hb3, hc4⟩ := (hir.below hbi).get hh6
              have hbb2 : b2 < wr.heap.size := Nat.lt_of_lt_of_le hb2 hbi.size
              have hbb : b < wr.heap.size := Nat.lt_of_lt_of_le hb hbi.size
              have hdc := (hbi.cell (p := ⟨b, off + k, none⟩) hb).trans hc
              have hh0 : (0 : Int) ≤ (h : Int) := by omega
              have hh1 : (h : Int) < 6 := by omega
              obtain ⟨z, HZ⟩ : ∃ z, Hid (z = rateI x.f x.t x.r x.u (h : Int)) := ⟨_, rfl⟩
              cases hin : (decide (0 ≤ y) && decide (y ≤ z))
              all_goals
                have HIN := Lib.hid hin
                go_wp2
                go_region_held3 (fun w' => (∀ bb oo, bb < wr.heap.size → w'.cell? ⟨bb, oo, none⟩ = wr.cell? ⟨bb, oo, none⟩) ∧ Below wr.heap.size wr w' ∧ wr.heap.size ≤ w'.heap.size)
                  (first | exact keep_drew (keep_start (Nat.le_refl _)) | exact keep_next (by assumption) hb1 | assumption)
                  (first
                    | (go_at_call 60; refine (specRateIn_any _ _ _ _ _ _).mono ?_; rintro e w3 ⟨rfl, hb1⟩; rw [← HZ.out])
                    | (go_at_call 53; refine (l1In_any _ _ _ _).mono ?_; rintro e w4 ⟨rfl, rfl⟩))
                have hK : Keep wr.heap.size wr w3 := by assumption
                have hbK := hK.2.1
                clear hin
                have hin := HIN.out
                go_wp2
                clear hin
              · go_ret
                refine planR_no (fun hp => ?_) (below_next (hbw.trans (hbi.mono hbw.size)) hbK)
                have h1 := (hp.2.2.2.1 k x r HX.out HR.out).2.1 h hh6
                rw [getD_at HY, ← HZ.out] at h1
                have h2 := HIN.out
                simp at h2; omega
              · go_roundw
                case rel =>
                  refine ⟨h + 1, by omega, by go_num, fun j hj => ?_, below_next hbi hbK⟩
                  rcases Nat.lt_or_ge j h with h2 | h2
                  · exact HB.out j h2
                  · have : j = h := by omega
                    subst this
                    rw [getD_at HY, ← HZ.out]
                    have h2 := HIN.out
                    simp at h2; omega
                case measure => simp [intOf]; omega
            · obtain rfl : h = 6 := by omega
              obtain ⟨s, HS⟩ : ∃ s, Hid (s = sumW r) := ⟨_, rfl⟩
              have hbb2 : b2 < wr.heap.size := Nat.lt_of_lt_of_le hb2 hbi.size
              have hbb : b < wr.heap.size := Nat.lt_of_lt_of_le hb hbi.size
              have hdc := (hbi.cell (p := ⟨b, off + k, none⟩) hb).trans hc
              by_cases hsu : x.u < s
              all_goals
                go_wp2
                go_region_held3 (fun w' => w'.cell? ⟨b2, off2 + k * 4 + 3, none⟩ = some (.int .i64 x.u) ∧ w'.cell? ⟨b, off + k, none⟩ = some (.slice A' 6 c') ∧ Below wr.heap.size wr w')
                  (first | exact ⟨hd3, hdc, (Below.refl _ _).drew⟩ | assumption)
                  (first | (go_at_call 58; refine (specPlanUnits_any _ _ _ _ _ hq ((hir.below hbi).below ((Below.refl _ _).drew))).mono ?_; rintro e w3 ⟨rfl, rfl⟩; rw [← HS.out]))
                go_wp2
              · go_ret
                refine planR_no (fun hp => ?_) ((hbw.trans (hbi.mono hbw.size)).drew)
                have h1 := (hp.2.2.2.1 k x r HX.out HR.out).2.2
                rw [← HS.out] at h1; omega
              · go_roundw
                case rel =>
                  refine ⟨k + 1, by omega, by go_num, fun j x' r' hj hx' hr' => ?_, (hbw.trans (hbi.mono hbw.size)).drew⟩
                  rcases Nat.lt_or_ge j k with h2 | h2
                  · exact HA.out j x' r' h2 hx' hr'
                  · have : j = k := by omega
                    subst this
                    have e1 := HX.out
                    have e2 := HR.out
                    rw [hx'] at e1; rw [hr'] at e2
                    injection e1 with e1; injection e2 with e2
                    subst e1; subst e2
                    exact ⟨Hq.out, fun j hj => HB.out j hj, by rw [← HS.out]; omega⟩
                case measure => simp [intOf]; omega
        · have hq6' : ¬ (q : Int) = 6 := by omega
          go_wp2
          go_ret
          refine planR_no (fun hp => ?_) (hbw)
          have h1 := (hp.2.2.2.1 k x r HX.out HR.out).1
          rw [Hq.out] at h1; omega
      · go_wp2
        go_loopw [9] (fun i wr => ∃ h : Nat, h ≤ 6 ∧ i = .int .i64 h ∧ (∀ j : Nat, j < h → loadW (j : Int) rows ≤ feed.getD j 0) ∧ Below wo.heap.size wo wr) (fun i _ => 6 - (intOf i).toNat)
        case atStart => exact ⟨0, Nat.zero_le _, rfl, fun j h => absurd h (by omega), Below.refl _ _⟩
        case round =>
          obtain ⟨h, hh, rfl, hld, hbi⟩ := hrel
          have HB := Lib.hid hld
          clear hld
          have hbw' := hbw.trans (hbi.mono hbw.size)
          by_cases hh6 : h < 6
          · obtain ⟨y, b3, off3, HY, rfl, hb3, hc4⟩ := (hf.below hbw').get hh6
            obtain ⟨z, HZ⟩ : ∃ z, Hid (z = loadW (h : Int) rows) := ⟨_, rfl⟩
            have hh0 : (0 : Int) ≤ (h : Int) := by omega
            have hh1 : (h : Int) < 6 := by omega
            by_cases hyz : y < z
            all_goals
              go_wp2
              go_region_held3 (fun w' => w'.cell? ⟨b3, off3 + h, none⟩ = some (.int .i64 y) ∧ Below wr.heap.size wr w')
                (first | exact ⟨hc4, (Below.refl _ _).drew⟩ | assumption)
                (first | (go_at_call 20; refine (specPlanLoad_any _ _ _ rows _ _ hl ((hg.below hbw').below ((Below.refl _ _).drew))).mono ?_; rintro e w3 ⟨rfl, rfl⟩; rw [← HZ.out]))
              go_wp2
            · go_ret
              refine planR_no (fun hp => ?_) hbw'.drew
              have h1 := hp.2.2.2.2 h hh6
              rw [getD_at HY, ← HZ.out] at h1; omega
            · go_roundw
              case rel =>
                refine ⟨h + 1, by omega, by go_num, fun j hj => ?_, hbi.drew⟩
                rcases Nat.lt_or_ge j h with h2 | h2
                · exact HB.out j h2
                · have : j = h := by omega
                  subst this
                  rw [getD_at HY, ← HZ.out]; omega
              case measure => simp [intOf]; omega
          · go_wp2
            go_ret
            refine planR_yes ⟨HN.out, HF.out, by rw [HLg.out, HL.out], fun j x r hx' hr' => HA.out j x r ?_ hx' hr', fun j hj => HB.out j (by omega)⟩ hbw'
            have := (List.getElem?_eq_some_iff.1 hx').1
            have := HL.out
            omega
  · have hln' : ((l : Int) == (n : Int)) = false := by simp; omega
    have hln2 : ¬ (l : Int) = n := by omega
    go_enter Try.func41, Try.ntmps41
    go_wp2_with fail
    refine (specNeedsValid_any A n c ns _ hn hx).mono ?_; rintro e w1 ⟨rfl, hb1⟩
    go_wp2_with fail
    refine (specFeedValid_any F m fc feed _ hm (hf.below hb1)).mono ?_; rintro e w2 ⟨rfl, rfl⟩
    go_wp2
    go_ret
    refine planR_no (fun hp => ?_) (hb1)
    have h1 := hp.2.2.1
    rw [HLg.out, HL.out] at h1; omega
end Go.Proofs.Ytnhcjbebfddcdaa
