/-
  The law FnPlanAll: without the first car a plan gives less by its units.
-/
import Derived.Test.YtobkljhbmeglpaaDoorDrCharge
import Derived.Test.YtobkljhbmeglpaaDoorAlive
import Derived.Deep.RegionHeld
namespace Go.Proofs.YtobkljhbmeglpaaDoor
open Go.ChangeShapes Go.WideShapes Go.ChangeAt Go.RowKit

def DrawPaR (w : World) (e : Ending) (w' : World) : Prop :=
  ∃ (gO n3 cO : Nat) (gs : List Nat) (rows : List (List Int)), e = .returned (.slice (some ⟨gO, 0, none⟩) n3 cO) ∧ PC w' w.heap.size gO n3 cO gs rows ∧ planD rows ∧ Below w.heap.size w w'
set_option maxHeartbeats 1000000 in
theorem drawPlanAll_any (w : World) (A : Option Addr) (n c : Nat) (bs : List Int) (hn : n ≤ c ∧ c ≤ 9223372036854775807) (hb : BytesAt w A n bs) :
    Calls Tryd.prog 41 #[.slice A n c] w (DrawPaR w) := by
  go_enter Tryd.func41, Tryd.ntmps41
  go_wp2_with fail
  refine (open_any w A n c bs hn hb).mono ?_; rintro e w2 ⟨R, A1, n1, c1, bs1, rfl, hR2⟩
  have hRl := hR2.lt
  go_wp2_with fail
  refine (l20Charge_any w w2 R A1 n1 c1 bs1 0 hR2 (by omega)).mono ?_; rintro e w3 ⟨v1, v2, gO, n3, cO, gs, rows, rfl, hP, hD, hR3, hf3⟩
  go_wp2
  go_ret
  exact ⟨gO, n3, cO, gs, rows, rfl, hP.lower hR2.bw.size, hD, hR3.bw⟩

theorem rows_cut {w : World} {gO n3 cO : Nat} {rows : List (List Int)} (h : RowsAt w (some ⟨gO, 0, none⟩) n3 rows) (hn : n3 ≤ cO) (h1 : 1 ≤ n3) : RowsAt w (if cO = 1 then some ⟨gO, 0, none⟩ else some ⟨gO, 1, none⟩) (n3 - 1) (rows.drop 1) := by
  by_cases hc : cO = 1
  · have h0 : n3 - 1 = 0 := by omega
    have h2 : rows.drop 1 = [] := List.drop_eq_nil_of_le (by have := h.len; omega)
    rw [h0, h2]
    exact ⟨rfl, fun k r hr => by simp at hr⟩
  · rw [if_neg hc]
    refine ⟨by rw [List.length_drop, h.len], fun k r hr => ?_⟩
    rw [List.getElem?_drop] at hr
    obtain ⟨b, off, A', c', hA, hlt, hcl, hi, hm⟩ := h.row (1 + k) r hr
    injection hA with hA; injection hA with e1 e2; subst e1; subst e2
    exact ⟨gO, 1, A', c', rfl, hlt, by rw [Nat.zero_add] at hcl; exact hcl, hi, hm⟩

set_option maxRecDepth 100000 in
set_option maxHeartbeats 2000000 in
theorem lawPlanAll (A : Option Addr) (n c : Nat) (bs : List Int) (w : World) (hn : n ≤ c ∧ c ≤ 9223372036854775807) (hb : BytesAt w A n bs) :
    Calls Tryd.prog 11 #[.slice A n c] w (RV w (.bool true)) := by
  obtain ⟨hn1, hn2⟩ := hn
  by_cases hbig : 1048576 < n
  · have hd : decide (1048576 < n) = true := by simpa using hbig
    go_enter Tryd.func11, Tryd.ntmps11
    go_wp2
    go_ret
    exact ⟨rfl, Below.refl _ _⟩
  have hd : decide (1048576 < n) = false := by simpa using hbig
  have HB := Lib.hid hb
  clear hb
  go_enter Tryd.func11, Tryd.ntmps11
  go_wp2_with fail
  refine (drawPlanAll_any w A n c bs ⟨hn1, hn2⟩ HB.out).mono ?_; rintro e w1 ⟨gO, n3, cO, gs, rows, rfl, hP, hD, hb1⟩
  clear HB hn1 hn2 hbig hd
  have hr := hP.rowsAt
  have hn6 : n3 ≤ 6 := by have := hD.1; have := hr.len; omega
  have HD := Lib.hid hD
  clear hD
  have hxb := allW_plain HD.out
  rw [← hxb.1] at hxb
  have hxb2 := hxb.2
  clear hxb
  obtain ⟨x, HX⟩ : ∃ x, Hid (allW rows = x) := ⟨_, rfl⟩
  rw [HX.out] at hxb2
  have hxx : (x != x) = false := by simp
  go_wp2_with fail
  refine (planAll_any _ n3 cO rows w1 (by omega) hr).mono ?_; rintro e w2 ⟨rfl, rfl⟩
  rw [HX.out]
  go_wp2_with fail
  refine (specPlanAll_any _ n3 cO rows w1 (by omega) hr).mono ?_; rintro e w2 ⟨rfl, rfl⟩
  rw [HX.out]
  by_cases h0 : n3 = 0
  · subst h0
    obtain rfl : x = 0 := by
      have h1 := hr.len
      have h2 : rows = [] := List.eq_nil_of_length_eq_zero h1
      have h3 := HX.out
      rw [h2] at h3
      exact h3.symm
    go_wp2_with fail
    refine wp_region_held_drew (S := (fun w' => Below w1.heap.size w1 w')) (by kernel_rfl) ?_ (fun hHeld => ?_)
    · (try dsimp only); (first | exact (Below.refl _ _).drew | exact hHeld | exact hHeld.trans (hb6.mono hHeld.size))
    refine wpAnyH_take (i := 0) (v := ?vq1_0) (by simp only [List.getElem?_toArray, List.getElem?_cons_zero]; rfl) (by kernel_rfl) (by kernel_rfl) (by kernel_rfl) (by exact fun _ _ _ h => h) (Or.inl ⟨by rfl, ?hq1_0⟩) hHeld ?rq1_0
    case hq1_0 => (intro w hSw; (try dsimp only at hSw); go_simp; (try with_reducible rfl))
    try simp only [put_laws]
    refine wpAnyH_take (i := 1) (v := ?vq1_1) (by simp only [List.getElem?_toArray, List.getElem?_cons_succ, List.getElem?_cons_zero]; rfl) (by kernel_rfl) (by kernel_rfl) (by kernel_rfl) (by exact fun _ _ _ h => h) (Or.inl ⟨by rfl, ?hq1_1⟩) hHeld ?rq1_1
    case hq1_1 => (intro w hSw; (try dsimp only at hSw); go_simp; (try with_reducible rfl))
    try simp only [put_laws]
    refine wpAnyH_take (i := 2) (v := ?vq1_2) (by simp only [List.getElem?_toArray, List.getElem?_cons_succ, List.getElem?_cons_zero]; rfl) (by kernel_rfl) (by kernel_rfl) (by kernel_rfl) (by exact fun _ _ _ h => h) (Or.inl ⟨by rfl, ?hq1_2⟩) hHeld ?rq1_2
    case hq1_2 => (intro w hSw; (try dsimp only at hSw); go_simp; (try with_reducible rfl))
    try simp only [put_laws]
    refine wpAnyH_take (i := 3) (v := ?vq1_3) (by simp only [List.getElem?_toArray, List.getElem?_cons_succ, List.getElem?_cons_zero]; rfl) (by kernel_rfl) (by kernel_rfl) (by kernel_rfl) (by exact fun _ _ _ h => h) (Or.inl ⟨by rfl, ?hq1_3⟩) hHeld ?rq1_3
    case hq1_3 => (intro w hSw; (try dsimp only at hSw); go_simp; (try with_reducible rfl))
    try simp only [put_laws]
    refine wpAnyH_take (i := 4) (v := ?vq1_4) (by simp only [List.getElem?_toArray, List.getElem?_cons_succ, List.getElem?_cons_zero]; rfl) (by kernel_rfl) (by kernel_rfl) (by kernel_rfl) (by exact fun _ _ _ h => h) (Or.inl ⟨by rfl, ?hq1_4⟩) hHeld ?rq1_4
    case hq1_4 => (intro w hSw; (try dsimp only at hSw); go_simp; (try with_reducible rfl))
    try simp only [put_laws]
    refine wpAnyH_take (i := 5) (v := ?vq1_5) (by simp only [List.getElem?_toArray, List.getElem?_cons_succ, List.getElem?_cons_zero]; rfl) (by kernel_rfl) (by kernel_rfl) (by kernel_rfl) (by exact fun _ _ _ h => h) (Or.inl ⟨by rfl, ?hq1_5⟩) hHeld ?rq1_5
    case hq1_5 => (intro w hSw; (try dsimp only at hSw); go_simp; (try with_reducible rfl))
    try simp only [put_laws]
    refine wpAnyH_take (i := 6) (v := ?vq1_6) (by simp only [List.getElem?_toArray, List.getElem?_cons_succ, List.getElem?_cons_zero]; rfl) (by kernel_rfl) (by kernel_rfl) (by kernel_rfl) (by exact fun _ _ _ h => h) (Or.inl ⟨by rfl, ?hq1_6⟩) hHeld ?rq1_6
    case hq1_6 => (intro w hSw; (try dsimp only at hSw); go_simp; (try with_reducible rfl))
    try simp only [put_laws]
    refine wpAnyH_take (i := 7) (v := ?vq1_7) (by simp only [List.getElem?_toArray, List.getElem?_cons_succ, List.getElem?_cons_zero]; rfl) (by kernel_rfl) (by kernel_rfl) (by kernel_rfl) (by exact fun _ _ _ h => h) (Or.inl ⟨by rfl, ?hq1_7⟩) hHeld ?rq1_7
    case hq1_7 => (intro w hSw; (try dsimp only at hSw); go_simp; (try with_reducible rfl))
    try simp only [put_laws]
    refine wpAnyH_take (i := 8) (v := undef) (by simp only [List.getElem?_toArray, List.getElem?_cons_succ, List.getElem?_cons_zero]; rfl) (by kernel_rfl) (by kernel_rfl) (by kernel_rfl) (by exact fun _ _ _ h => h) (Or.inr ⟨by rfl, rfl⟩) hHeld ?_
    try simp only [put_laws]
    refine wpAnyH_take (i := 9) (v := undef) (by simp only [List.getElem?_toArray, List.getElem?_cons_succ, List.getElem?_cons_zero]; rfl) (by kernel_rfl) (by kernel_rfl) (by kernel_rfl) (by exact fun _ _ _ h => h) (Or.inr ⟨by rfl, rfl⟩) hHeld ?_
    try simp only [put_laws]
    refine wpAnyH_take (i := 10) (v := undef) (by simp only [List.getElem?_toArray, List.getElem?_cons_succ, List.getElem?_cons_zero]; rfl) (by kernel_rfl) (by kernel_rfl) (by kernel_rfl) (by exact fun _ _ _ h => h) (Or.inr ⟨by rfl, rfl⟩) hHeld ?_
    try simp only [put_laws]
    refine wpAnyH_take (i := 11) (v := undef) (by simp only [List.getElem?_toArray, List.getElem?_cons_succ, List.getElem?_cons_zero]; rfl) (by kernel_rfl) (by kernel_rfl) (by kernel_rfl) (by exact fun _ _ _ h => h) (Or.inr ⟨by rfl, rfl⟩) hHeld ?_
    try simp only [put_laws]
    refine wpAnyH_take (i := 12) (v := undef) (by simp only [List.getElem?_toArray, List.getElem?_cons_succ, List.getElem?_cons_zero]; rfl) (by kernel_rfl) (by kernel_rfl) (by kernel_rfl) (by exact fun _ _ _ h => h) (Or.inr ⟨by rfl, rfl⟩) hHeld ?_
    try simp only [put_laws]
    refine wpAnyH_take (i := 13) (v := undef) (by simp only [List.getElem?_toArray, List.getElem?_cons_succ, List.getElem?_cons_zero]; rfl) (by kernel_rfl) (by kernel_rfl) (by kernel_rfl) (by exact fun _ _ _ h => h) (Or.inr ⟨by rfl, rfl⟩) hHeld ?_
    try simp only [put_laws]
    refine wpAnyH_take (i := 14) (v := undef) (by simp only [List.getElem?_toArray, List.getElem?_cons_succ, List.getElem?_cons_zero]; rfl) (by kernel_rfl) (by kernel_rfl) (by kernel_rfl) (by exact fun _ _ _ h => h) (Or.inr ⟨by rfl, rfl⟩) hHeld ?_
    try simp only [put_laws]
    refine wpAnyH_take (i := 15) (v := undef) (by simp only [List.getElem?_toArray, List.getElem?_cons_succ, List.getElem?_cons_zero]; rfl) (by kernel_rfl) (by kernel_rfl) (by kernel_rfl) (by exact fun _ _ _ h => h) (Or.inr ⟨by rfl, rfl⟩) hHeld ?_
    try simp only [put_laws]
    refine wpAnyH_take (i := 16) (v := undef) (by simp only [List.getElem?_toArray, List.getElem?_cons_succ, List.getElem?_cons_zero]; rfl) (by kernel_rfl) (by kernel_rfl) (by kernel_rfl) (by exact fun _ _ _ h => h) (Or.inr ⟨by rfl, rfl⟩) hHeld ?_
    try simp only [put_laws]
    refine wpAnyH_take (i := 17) (v := undef) (by simp only [List.getElem?_toArray, List.getElem?_cons_succ, List.getElem?_cons_zero]; rfl) (by kernel_rfl) (by kernel_rfl) (by kernel_rfl) (by exact fun _ _ _ h => h) (Or.inr ⟨by rfl, rfl⟩) hHeld ?_
    try simp only [put_laws]
    refine wpAnyH_take (i := 18) (v := undef) (by simp only [List.getElem?_toArray, List.getElem?_cons_succ, List.getElem?_cons_zero]; rfl) (by kernel_rfl) (by kernel_rfl) (by kernel_rfl) (by exact fun _ _ _ h => h) (Or.inr ⟨by rfl, rfl⟩) hHeld ?_
    try simp only [put_laws]
    refine wpAnyH_take (i := 19) (v := undef) (by simp only [List.getElem?_toArray, List.getElem?_cons_succ, List.getElem?_cons_zero]; rfl) (by kernel_rfl) (by kernel_rfl) (by kernel_rfl) (by exact fun _ _ _ h => h) (Or.inr ⟨by rfl, rfl⟩) hHeld ?_
    try simp only [put_laws]
    refine wpAnyH_take (i := 20) (v := undef) (by simp only [List.getElem?_toArray, List.getElem?_cons_succ, List.getElem?_cons_zero]; rfl) (by kernel_rfl) (by kernel_rfl) (by kernel_rfl) (by exact fun _ _ _ h => h) (Or.inr ⟨by rfl, rfl⟩) hHeld ?_
    try simp only [put_laws]
    refine wpAnyH_take (i := 21) (v := undef) (by simp only [List.getElem?_toArray, List.getElem?_cons_succ, List.getElem?_cons_zero]; rfl) (by kernel_rfl) (by kernel_rfl) (by kernel_rfl) (by exact fun _ _ _ h => h) (Or.inr ⟨by rfl, rfl⟩) hHeld ?_
    try simp only [put_laws]
    refine wpAnyH_take (i := 22) (v := undef) (by simp only [List.getElem?_toArray, List.getElem?_cons_succ, List.getElem?_cons_zero]; rfl) (by kernel_rfl) (by kernel_rfl) (by kernel_rfl) (by exact fun _ _ _ h => h) (Or.inr ⟨by rfl, rfl⟩) hHeld ?_
    try simp only [put_laws]
    refine wpAnyH_take (i := 23) (v := ?vq1_23) (by simp only [List.getElem?_toArray, List.getElem?_cons_succ, List.getElem?_cons_zero]; rfl) (by kernel_rfl) (by kernel_rfl) (by kernel_rfl) (by exact fun _ _ _ h => h) (Or.inl ⟨by rfl, ?hq1_23⟩) hHeld ?rq1_23
    case hq1_23 => (intro w hSw; (try dsimp only at hSw); go_simp; (try with_reducible rfl))
    try simp only [put_laws]
    refine wpAnyH_take (i := 24) (v := ?vq1_24) (by simp only [List.getElem?_toArray, List.getElem?_cons_succ, List.getElem?_cons_zero]; rfl) (by kernel_rfl) (by kernel_rfl) (by kernel_rfl) (by exact fun _ _ _ h => h) (Or.inl ⟨by rfl, ?hq1_24⟩) hHeld ?rq1_24
    case hq1_24 => (intro w hSw; (try dsimp only at hSw); go_simp; (try with_reducible rfl))
    try simp only [put_laws]
    refine wpAnyH_ready (rs := [25]) (by kernel_rfl) (by simp) ?_
    refine AllReadyH.cons (by simp only [List.getElem?_toArray, List.getElem?_cons_succ, List.getElem?_cons_zero]; rfl) (fun K hK => ?_) AllReadyH.nil
    go_simp
    (refine (alive_any _).mono ?_; rintro e w6 ⟨rfl, hb6⟩)
    refine hK.out _ _ ?_ (fun hHeld => ?_)
    · (try dsimp only); (first | exact (Below.refl _ _).drew | exact hHeld | exact hHeld.trans (hb6.mono hHeld.size))
    clear hK K
    try simp only [put_laws]
    refine wpAnyH_take (i := 26) (v := ?vq1_26) (by simp only [List.getElem?_toArray, List.getElem?_cons_succ, List.getElem?_cons_zero]; rfl) (by kernel_rfl) (by kernel_rfl) (by kernel_rfl) (by exact fun _ _ _ h => h) (Or.inl ⟨by rfl, ?hq1_26⟩) hHeld ?rq1_26
    case hq1_26 => (intro w hSw; (try dsimp only at hSw); go_simp; (try with_reducible rfl))
    try simp only [put_laws]
    refine wpAnyH_take (i := 27) (v := ?vq1_27) (by simp only [List.getElem?_toArray, List.getElem?_cons_succ, List.getElem?_cons_zero]; rfl) (by kernel_rfl) (by kernel_rfl) (by kernel_rfl) (by exact fun _ _ _ h => h) (Or.inl ⟨by rfl, ?hq1_27⟩) hHeld ?rq1_27
    case hq1_27 => (intro w hSw; (try dsimp only at hSw); go_simp; (try with_reducible rfl))
    try simp only [put_laws]
    refine wpAnyH_done (by kernel_rfl) ?_ _
    go_wp2
    all_goals
      go_ret
      exact ⟨rfl, below_next hb1 hHeld⟩
  · obtain ⟨g0, r0, hg0, hr0⟩ := hP.get (j := 0) (by omega)
    have he0 := hP.each 0 g0 r0 hg0 hr0
    have dP := hP.cell hg0
    simp only [slv] at dP
    have hI0 : IntsAt w1 (some ⟨g0, 0, none⟩) 6 r0 := ints_whole he0.2.2.2 he0.2.2.1
    have hsr := sumW_row he0.2.2.1 (HD.out.2 r0 (List.mem_of_getElem? hr0)).2
    have hsb := hsr.2
    clear hsr
    have htl : allW (rows.drop 1) = x - sumW r0 := by
      cases hrw : rows with
      | nil => rw [hrw] at hr0; simp at hr0
      | cons r rs =>
        rw [hrw] at hr0; simp at hr0; subst hr0
        have h1 := HD.out
        rw [hrw] at h1
        have h2 := HX.out
        rw [hrw] at h2
        rw [List.drop_succ_cons, List.drop_zero, allW_tail h1, h2]
    obtain ⟨u, HU⟩ : ∃ u, Hid (sumW r0 = u) := ⟨_, rfl⟩
    rw [HU.out] at hsb htl
    have HT := Lib.hid htl
    have hwr : IntKind.i64.wrap (x - u) = x - u := IntWalk.i64_in _ (by omega)
    have hm0 : ((n3 : Int) == 0) = false := by simp; omega
    have hm1 : decide (0 < (n3 : Int)) = true := by simp; omega
    have hm2 : (0 : Int) < (n3 : Int) := by omega
    have hm3 : (1 : Int) ≤ (n3 : Int) := by omega
    have hn1 : 1 ≤ n3 := by omega
    have hmp : 0 < n3 := by omega
    have hee : (x - u == x - u) = true := by simp
    have hcap := ownG_cap hP.out
    have hgl := (ownG_far hP.out).2
    have HR := Lib.hid hr
    have HI := Lib.hid hI0
    clear htl hg0 hr0 he0 hP hr hI0 h0
    go_wp2_with fail
    refine wp_region_held_drew (S := (fun w' => w'.cell? ⟨gO, 0, none⟩ = some (.slice (some ⟨g0, 0, none⟩) 6 6) ∧ Below w1.heap.size w1 w')) (by kernel_rfl) ?_ (fun hHeld => ?_)
    · (try dsimp only); (first | exact ⟨dP, (Below.refl _ _).drew⟩ | exact hHeld | exact ⟨(hb6.cell (p := ⟨gO, 0, none⟩) (Nat.lt_of_lt_of_le hgl hHeld.2.size)).trans hHeld.1, hHeld.2.trans (hb6.mono hHeld.2.size)⟩)
    refine wpAnyH_take (i := 0) (v := ?vq2_0) (by simp only [List.getElem?_toArray, List.getElem?_cons_zero]; rfl) (by kernel_rfl) (by kernel_rfl) (by kernel_rfl) (by exact fun _ _ _ h => h) (Or.inl ⟨by rfl, ?hq2_0⟩) hHeld ?rq2_0
    case hq2_0 => (intro w hSw; (try dsimp only at hSw); go_simp; (try with_reducible rfl))
    try simp only [put_laws]
    refine wpAnyH_take (i := 1) (v := ?vq2_1) (by simp only [List.getElem?_toArray, List.getElem?_cons_succ, List.getElem?_cons_zero]; rfl) (by kernel_rfl) (by kernel_rfl) (by kernel_rfl) (by exact fun _ _ _ h => h) (Or.inl ⟨by rfl, ?hq2_1⟩) hHeld ?rq2_1
    case hq2_1 => (intro w hSw; (try dsimp only at hSw); go_simp; (try with_reducible rfl))
    try simp only [put_laws]
    refine wpAnyH_take (i := 2) (v := ?vq2_2) (by simp only [List.getElem?_toArray, List.getElem?_cons_succ, List.getElem?_cons_zero]; rfl) (by kernel_rfl) (by kernel_rfl) (by kernel_rfl) (by exact fun _ _ _ h => h) (Or.inl ⟨by rfl, ?hq2_2⟩) hHeld ?rq2_2
    case hq2_2 => (intro w hSw; (try dsimp only at hSw); go_simp; (try with_reducible rfl))
    try simp only [put_laws]
    refine wpAnyH_take (i := 3) (v := ?vq2_3) (by simp only [List.getElem?_toArray, List.getElem?_cons_succ, List.getElem?_cons_zero]; rfl) (by kernel_rfl) (by kernel_rfl) (by kernel_rfl) (by exact fun _ _ _ h => h) (Or.inl ⟨by rfl, ?hq2_3⟩) hHeld ?rq2_3
    case hq2_3 => (intro w hSw; (try dsimp only at hSw); go_simp; (try with_reducible rfl))
    try simp only [put_laws]
    refine wpAnyH_take (i := 4) (v := undef) (by simp only [List.getElem?_toArray, List.getElem?_cons_succ, List.getElem?_cons_zero]; rfl) (by kernel_rfl) (by kernel_rfl) (by kernel_rfl) (by exact fun _ _ _ h => h) (Or.inr ⟨by rfl, rfl⟩) hHeld ?_
    try simp only [put_laws]
    refine wpAnyH_take (i := 5) (v := undef) (by simp only [List.getElem?_toArray, List.getElem?_cons_succ, List.getElem?_cons_zero]; rfl) (by kernel_rfl) (by kernel_rfl) (by kernel_rfl) (by exact fun _ _ _ h => h) (Or.inr ⟨by rfl, rfl⟩) hHeld ?_
    try simp only [put_laws]
    refine wpAnyH_take (i := 6) (v := ?vq2_6) (by simp only [List.getElem?_toArray, List.getElem?_cons_succ, List.getElem?_cons_zero]; rfl) (by kernel_rfl) (by kernel_rfl) (by kernel_rfl) (by exact fun _ _ _ h => h) (Or.inl ⟨by rfl, ?hq2_6⟩) hHeld ?rq2_6
    case hq2_6 => (intro w hSw; (try dsimp only at hSw); go_simp; (try with_reducible rfl))
    try simp only [put_laws]
    refine wpAnyH_take (i := 7) (v := ?vq2_7) (by simp only [List.getElem?_toArray, List.getElem?_cons_succ, List.getElem?_cons_zero]; rfl) (by kernel_rfl) (by kernel_rfl) (by kernel_rfl) (by exact fun _ _ _ h => h) (Or.inl ⟨by rfl, ?hq2_7⟩) hHeld ?rq2_7
    case hq2_7 => (intro w hSw; (try dsimp only at hSw); go_simp; (try with_reducible rfl))
    try simp only [put_laws]
    refine wpAnyH_take (i := 8) (v := ?vq2_8) (by simp only [List.getElem?_toArray, List.getElem?_cons_succ, List.getElem?_cons_zero]; rfl) (by kernel_rfl) (by kernel_rfl) (by kernel_rfl) (by exact fun _ _ _ h => h) (Or.inl ⟨by rfl, ?hq2_8⟩) hHeld ?rq2_8
    case hq2_8 => (intro w hSw; (try dsimp only at hSw); go_simp; (try with_reducible rfl))
    try simp only [put_laws]
    refine wpAnyH_take (i := 9) (v := ?vq2_9) (by simp only [List.getElem?_toArray, List.getElem?_cons_succ, List.getElem?_cons_zero]; rfl) (by kernel_rfl) (by kernel_rfl) (by kernel_rfl) (by exact fun _ _ _ h => h) (Or.inl ⟨by rfl, ?hq2_9⟩) hHeld ?rq2_9
    case hq2_9 => (intro w hSw; (try dsimp only at hSw); go_simp; (try with_reducible rfl))
    try simp only [put_laws]
    refine wpAnyH_take (i := 10) (v := ?vq2_10) (by simp only [List.getElem?_toArray, List.getElem?_cons_succ, List.getElem?_cons_zero]; rfl) (by kernel_rfl) (by kernel_rfl) (by kernel_rfl) (by exact fun _ _ _ h => h) (Or.inl ⟨by rfl, ?hq2_10⟩) hHeld ?rq2_10
    case hq2_10 => (intro w hSw; (try dsimp only at hSw); go_simp; (try with_reducible rfl))
    try simp only [put_laws]
    refine wpAnyH_take (i := 11) (v := ?vq2_11) (by simp only [List.getElem?_toArray, List.getElem?_cons_succ, List.getElem?_cons_zero]; rfl) (by kernel_rfl) (by kernel_rfl) (by kernel_rfl) (by exact fun _ _ _ h => h) (Or.inl ⟨by rfl, ?hq2_11⟩) hHeld ?rq2_11
    case hq2_11 => (intro w hSw; (try dsimp only at hSw); go_simp; (try with_reducible rfl))
    try simp only [put_laws]
    refine wpAnyH_take (i := 12) (v := ?vq2_12) (by simp only [List.getElem?_toArray, List.getElem?_cons_succ, List.getElem?_cons_zero]; rfl) (by kernel_rfl) (by kernel_rfl) (by kernel_rfl) (by exact fun _ _ _ h => h) (Or.inl ⟨by rfl, ?hq2_12⟩) hHeld ?rq2_12
    case hq2_12 => (intro w hSw; (try dsimp only at hSw); go_simp; (try with_reducible rfl))
    try simp only [put_laws]
    refine wpAnyH_take (i := 13) (v := ?vq2_13) (by simp only [List.getElem?_toArray, List.getElem?_cons_succ, List.getElem?_cons_zero]; rfl) (by kernel_rfl) (by kernel_rfl) (by kernel_rfl) (by exact fun _ _ _ h => h) (Or.inl ⟨by rfl, ?hq2_13⟩) hHeld ?rq2_13
    case hq2_13 => (intro w hSw; (try dsimp only at hSw); go_simp; (try with_reducible rfl))
    try simp only [put_laws]
    refine wpAnyH_take (i := 15) (v := ?vq2_15) (by simp only [List.getElem?_toArray, List.getElem?_cons_succ, List.getElem?_cons_zero]; rfl) (by kernel_rfl) (by kernel_rfl) (by kernel_rfl) (by exact fun _ _ _ h => h) (Or.inl ⟨by rfl, ?hq2_15⟩) hHeld ?rq2_15
    case hq2_15 => (intro w hSw; (try dsimp only at hSw); go_simp; (try with_reducible rfl))
    try simp only [put_laws]
    refine wpAnyH_take (i := 16) (v := ?vq2_16) (by simp only [List.getElem?_toArray, List.getElem?_cons_succ, List.getElem?_cons_zero]; rfl) (by kernel_rfl) (by kernel_rfl) (by kernel_rfl) (by exact fun _ _ _ h => h) (Or.inl ⟨by rfl, ?hq2_16⟩) hHeld ?rq2_16
    case hq2_16 => (intro w hSw; (try dsimp only at hSw); go_simp; (try with_reducible rfl))
    try simp only [put_laws]
    refine wpAnyH_take (i := 17) (v := ?vq2_17) (by simp only [List.getElem?_toArray, List.getElem?_cons_succ, List.getElem?_cons_zero]; rfl) (by kernel_rfl) (by kernel_rfl) (by kernel_rfl) (by exact fun _ _ _ h => h) (Or.inl ⟨by rfl, ?hq2_17⟩) hHeld ?rq2_17
    case hq2_17 => (intro w hSw; (try dsimp only at hSw); go_simp; (try with_reducible rfl))
    try simp only [put_laws]
    refine wpAnyH_take (i := 18) (v := ?vq2_18) (by simp only [List.getElem?_toArray, List.getElem?_cons_succ, List.getElem?_cons_zero]; rfl) (by kernel_rfl) (by kernel_rfl) (by kernel_rfl) (by exact fun _ _ _ h => h) (Or.inl ⟨by rfl, ?hq2_18⟩) hHeld ?rq2_18
    case hq2_18 => (intro w hSw; (try dsimp only at hSw); go_simp; (try with_reducible rfl))
    try simp only [put_laws]
    refine wpAnyH_ready (rs := [14]) (by kernel_rfl) (by simp) ?_
    refine AllReadyH.cons (by simp only [List.getElem?_toArray, List.getElem?_cons_succ, List.getElem?_cons_zero]; rfl) (fun K hK => ?_) AllReadyH.nil
    go_simp
    (refine (planAll_any _ (n3 - 1) (cO - 1) (rows.drop 1) _ (by omega) ((rows_cut HR.out hcap.1 hn1).below hHeld.2)).mono ?_; rintro e w2 ⟨rfl, rfl⟩; rw [HT.out])
    refine hK.out _ _ ?_ (fun hHeld => ?_)
    · (try dsimp only); (first | exact ⟨dP, (Below.refl _ _).drew⟩ | exact hHeld | exact ⟨(hb6.cell (p := ⟨gO, 0, none⟩) (Nat.lt_of_lt_of_le hgl hHeld.2.size)).trans hHeld.1, hHeld.2.trans (hb6.mono hHeld.2.size)⟩)
    clear hK K
    try simp only [put_laws]
    refine wpAnyH_ready (rs := [19]) (by kernel_rfl) (by simp) ?_
    refine AllReadyH.cons (by simp only [List.getElem?_toArray, List.getElem?_cons_succ, List.getElem?_cons_zero]; rfl) (fun K hK => ?_) AllReadyH.nil
    go_simp
    (refine (planUnits_any _ 6 6 r0 _ (by omega) (HI.out.below hHeld.2)).mono ?_; rintro e w2 ⟨rfl, rfl⟩; rw [HU.out])
    refine hK.out _ _ ?_ (fun hHeld => ?_)
    · (try dsimp only); (first | exact ⟨dP, (Below.refl _ _).drew⟩ | exact hHeld | exact ⟨(hb6.cell (p := ⟨gO, 0, none⟩) (Nat.lt_of_lt_of_le hgl hHeld.2.size)).trans hHeld.1, hHeld.2.trans (hb6.mono hHeld.2.size)⟩)
    clear hK K
    try simp only [put_laws]
    refine wpAnyH_take (i := 20) (v := ?vq2_20) (by simp only [List.getElem?_toArray, List.getElem?_cons_succ, List.getElem?_cons_zero]; rfl) (by kernel_rfl) (by kernel_rfl) (by kernel_rfl) (by exact fun _ _ _ h => h) (Or.inl ⟨by rfl, ?hq2_20⟩) hHeld ?rq2_20
    case hq2_20 => (intro w hSw; (try dsimp only at hSw); go_simp; (try with_reducible rfl))
    try simp only [put_laws]
    refine wpAnyH_take (i := 21) (v := ?vq2_21) (by simp only [List.getElem?_toArray, List.getElem?_cons_succ, List.getElem?_cons_zero]; rfl) (by kernel_rfl) (by kernel_rfl) (by kernel_rfl) (by exact fun _ _ _ h => h) (Or.inl ⟨by rfl, ?hq2_21⟩) hHeld ?rq2_21
    case hq2_21 => (intro w hSw; (try dsimp only at hSw); go_simp; (try with_reducible rfl))
    try simp only [put_laws]
    refine wpAnyH_take (i := 22) (v := ?vq2_22) (by simp only [List.getElem?_toArray, List.getElem?_cons_succ, List.getElem?_cons_zero]; rfl) (by kernel_rfl) (by kernel_rfl) (by kernel_rfl) (by exact fun _ _ _ h => h) (Or.inl ⟨by rfl, ?hq2_22⟩) hHeld ?rq2_22
    case hq2_22 => (intro w hSw; (try dsimp only at hSw); go_simp; (try with_reducible rfl))
    try simp only [put_laws]
    refine wpAnyH_take (i := 23) (v := ?vq2_23) (by simp only [List.getElem?_toArray, List.getElem?_cons_succ, List.getElem?_cons_zero]; rfl) (by kernel_rfl) (by kernel_rfl) (by kernel_rfl) (by exact fun _ _ _ h => h) (Or.inl ⟨by rfl, ?hq2_23⟩) hHeld ?rq2_23
    case hq2_23 => (intro w hSw; (try dsimp only at hSw); go_simp; (try with_reducible rfl))
    try simp only [put_laws]
    refine wpAnyH_take (i := 24) (v := ?vq2_24) (by simp only [List.getElem?_toArray, List.getElem?_cons_succ, List.getElem?_cons_zero]; rfl) (by kernel_rfl) (by kernel_rfl) (by kernel_rfl) (by exact fun _ _ _ h => h) (Or.inl ⟨by rfl, ?hq2_24⟩) hHeld ?rq2_24
    case hq2_24 => (intro w hSw; (try dsimp only at hSw); go_simp; (try with_reducible rfl))
    try simp only [put_laws]
    refine wpAnyH_ready (rs := [25]) (by kernel_rfl) (by simp) ?_
    refine AllReadyH.cons (by simp only [List.getElem?_toArray, List.getElem?_cons_succ, List.getElem?_cons_zero]; rfl) (fun K hK => ?_) AllReadyH.nil
    go_simp
    (refine (alive_any _).mono ?_; rintro e w6 ⟨rfl, hb6⟩)
    refine hK.out _ _ ?_ (fun hHeld => ?_)
    · (try dsimp only); (first | exact ⟨dP, (Below.refl _ _).drew⟩ | exact hHeld | exact ⟨(hb6.cell (p := ⟨gO, 0, none⟩) (Nat.lt_of_lt_of_le hgl hHeld.2.size)).trans hHeld.1, hHeld.2.trans (hb6.mono hHeld.2.size)⟩)
    clear hK K
    try simp only [put_laws]
    refine wpAnyH_take (i := 26) (v := ?vq2_26) (by simp only [List.getElem?_toArray, List.getElem?_cons_succ, List.getElem?_cons_zero]; rfl) (by kernel_rfl) (by kernel_rfl) (by kernel_rfl) (by exact fun _ _ _ h => h) (Or.inl ⟨by rfl, ?hq2_26⟩) hHeld ?rq2_26
    case hq2_26 => (intro w hSw; (try dsimp only at hSw); go_simp; (try with_reducible rfl))
    try simp only [put_laws]
    refine wpAnyH_take (i := 27) (v := ?vq2_27) (by simp only [List.getElem?_toArray, List.getElem?_cons_succ, List.getElem?_cons_zero]; rfl) (by kernel_rfl) (by kernel_rfl) (by kernel_rfl) (by exact fun _ _ _ h => h) (Or.inl ⟨by rfl, ?hq2_27⟩) hHeld ?rq2_27
    case hq2_27 => (intro w hSw; (try dsimp only at hSw); go_simp; (try with_reducible rfl))
    try simp only [put_laws]
    refine wpAnyH_done (by kernel_rfl) ?_ _
    go_wp2
    all_goals
      go_ret
      exact ⟨rfl, below_next hb1 hHeld.2⟩
end Go.Proofs.YtobkljhbmeglpaaDoor
