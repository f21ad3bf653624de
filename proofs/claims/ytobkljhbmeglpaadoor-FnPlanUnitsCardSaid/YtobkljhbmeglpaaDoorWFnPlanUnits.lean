/-
  The law FnPlanUnits: the units of the first hours and of the others are together those of all.
-/
import Derived.Test.YtobkljhbmeglpaaDoorDrFeed
import Derived.Test.YtobkljhbmeglpaaDoorAlive
import Derived.Test.YtobkljhbmeglpaaDoorSum
import Derived.Test.YtobkljhbmeglpaaDoorSumOf
namespace Go.Proofs.YtobkljhbmeglpaaDoor
open Go.ChangeShapes Go.WideShapes Go.ChangeAt Go.RowKit

def DrawUR (w : World) (e : Ending) (w' : World) : Prop :=
  ∃ (g off m d : Nat) (xs : List Int), e = .returned (.slice (some ⟨g, off, none⟩) m d) ∧ IntsAt w' (some ⟨g, off, none⟩) m xs ∧ (m ≤ d ∧ d ≤ maxLen) ∧ m ≤ 7 ∧ feedR xs ∧ Below w.heap.size w w'
set_option maxHeartbeats 1000000 in
theorem drawPlanUnits_any (w : World) (A : Option Addr) (n c : Nat) (bs : List Int) (hn : n ≤ c ∧ c ≤ 9223372036854775807) (hb : BytesAt w A n bs) :
    Calls Tryd.prog 26 #[.slice A n c] w (DrawUR w) := by
  go_enter Tryd.func26, Tryd.ntmps26
  go_wp2_with fail
  refine (open_any w A n c bs hn hb).mono ?_; rintro e w2 ⟨R, A1, n1, c1, bs1, rfl, hR2⟩
  go_wp2_with fail
  refine (l20Feed_any w w2 R A1 n1 c1 bs1 0 5 hR2 (by omega) (by omega) (by omega)).mono ?_; rintro e w3 ⟨g, off, m, d, xs, rfl, hI, hm, hX, hR3, hf3⟩
  go_wp2
  go_ret
  exact ⟨g, off, m, d, xs, rfl, hI.ints, hI.cap, hm, hX, hR3.bw⟩

set_option maxRecDepth 100000 in
set_option maxHeartbeats 400000 in
theorem lawPlanUnits (A : Option Addr) (n c : Nat) (bs : List Int) (w : World) (hn : n ≤ c ∧ c ≤ 9223372036854775807) (hb : BytesAt w A n bs) :
    Calls Tryd.prog 7 #[.slice A n c] w (RV w (.bool true)) := by
  obtain ⟨hn1, hn2⟩ := hn
  by_cases hbig : 1048576 < n
  · have hd : decide (1048576 < n) = true := by simpa using hbig
    go_enter Tryd.func7, Tryd.ntmps7
    go_wp2
    go_ret
    exact ⟨rfl, Below.refl _ _⟩
  have hd : decide (1048576 < n) = false := by simpa using hbig
  have HB := Lib.hid hb
  clear hb
  go_enter Tryd.func7, Tryd.ntmps7
  go_wp2_with fail
  refine (drawPlanUnits_any w A n c bs ⟨hn1, hn2⟩ HB.out).mono ?_; rintro e w1 ⟨g, off, m, d, xs, rfl, hI, ⟨hm1, hm2⟩, hm7, hX, hb1⟩
  unfold maxLen at hm2
  clear HB hn1 hn2 hbig hd
  obtain ⟨hf, hfm, hfe⟩ : ∃ hf : Nat, hf ≤ m ∧ Hid (m / 2 = hf) := ⟨_, Nat.div_le_self _ _, rfl⟩
  have t1 : ((m : Int)).tdiv 2 = (hf : Int) := by rw [← hfe.out]; rfl
  have t1b : ((m : Int)) / 2 = (hf : Int) := by rw [← hfe.out]; rfl
  obtain ⟨hs, hl1, hl2, hl3, hl4⟩ := sum_parts hX (by have := hI.len; omega) hf
  obtain ⟨x1, hx1⟩ : ∃ x, Hid (sumW (xs.take hf) = x) := ⟨_, rfl⟩
  obtain ⟨x2, hx2⟩ : ∃ x, Hid (sumW (xs.drop hf) = x) := ⟨_, rfl⟩
  rw [hx1.out] at hs hl1 hl2
  rw [hx2.out] at hs hl3 hl4
  have HS := Lib.hid hs
  have HX := Lib.hid hX
  clear hs hX
  go_wp2_with fail
  refine (planUnits_any _ m d xs w1 (by omega) hI).mono ?_; rintro e w2 ⟨rfl, rfl⟩
  rw [HS.out]
  have HI := Lib.hid hI
  have hdm : hf ≤ d := by omega
  have hwr : IntKind.i64.wrap (x1 + x2) = x1 + x2 := IntWalk.i64_in _ (by omega)
  go_wp2_with fail
  clear hI
  refine wp_region_held_drew (S := (fun w' => Below w1.heap.size w1 w')) (by kernel_rfl) ?_ (fun hHeld => ?_)
  · (try dsimp only); (first | exact (Below.refl _ _).drew | exact hHeld | exact hHeld.trans (hb6.mono hHeld.size))
  refine wpAnyH_take (i := 0) (v := ?vq1_0) (by simp only [List.getElem?_toArray, List.getElem?_cons_zero]; rfl) (by kernel_rfl) (by kernel_rfl) (by kernel_rfl) (by exact fun _ _ _ h => h) (Or.inl ⟨by rfl, ?hq1_0⟩) hHeld ?rq1_0
  case hq1_0 => (intro w hSw; (try dsimp only at hSw); go_simp; (try with_reducible rfl))
  try simp only [put_laws]
  refine wpAnyH_take (i := 1) (v := ?vq1_1) (by simp only [List.getElem?_toArray, List.getElem?_cons_succ, List.getElem?_cons_zero]; rfl) (by kernel_rfl) (by kernel_rfl) (by kernel_rfl) (by exact fun _ _ _ h => h) (Or.inl ⟨by rfl, ?hq1_1⟩) hHeld ?rq1_1
  case hq1_1 => (intro w hSw; (try dsimp only at hSw); go_simp; (try with_reducible rfl))
  try simp only [put_laws]
  refine wpAnyH_ready (rs := [2]) (by kernel_rfl) (by simp) ?_
  refine AllReadyH.cons (by simp only [List.getElem?_toArray, List.getElem?_cons_succ, List.getElem?_cons_zero]; rfl) (fun K hK => ?_) AllReadyH.nil
  go_simp
  (refine (specPlanUnits_any _ m d xs _ (by omega) (HI.out.below hHeld)).mono ?_; rintro e w2 ⟨rfl, rfl⟩; rw [HS.out])
  refine hK.out _ _ ?_ (fun hHeld => ?_)
  · (try dsimp only); (first | exact (Below.refl _ _).drew | exact hHeld | exact hHeld.trans (hb6.mono hHeld.size))
  clear hK K
  try simp only [put_laws]
  refine wpAnyH_take (i := 3) (v := ?vq1_3) (by simp only [List.getElem?_toArray, List.getElem?_cons_succ, List.getElem?_cons_zero]; rfl) (by kernel_rfl) (by kernel_rfl) (by kernel_rfl) (by exact fun _ _ _ h => h) (Or.inl ⟨by rfl, ?hq1_3⟩) hHeld ?rq1_3
  case hq1_3 => (intro w hSw; (try dsimp only at hSw); go_simp; (try with_reducible rfl))
  try simp only [put_laws]
  refine wpAnyH_take (i := 4) (v := ?vq1_4) (by simp only [List.getElem?_toArray, List.getElem?_cons_succ, List.getElem?_cons_zero]; rfl) (by kernel_rfl) (by kernel_rfl) (by kernel_rfl) (by exact fun _ _ _ h => h) (Or.inl ⟨by rfl, ?hq1_4⟩) hHeld ?rq1_4
  case hq1_4 => (intro w hSw; (try dsimp only at hSw); go_simp; (try with_reducible rfl))
  try simp only [put_laws]
  refine wpAnyH_take (i := 5) (v := ?vq1_5) (by simp only [List.getElem?_toArray, List.getElem?_cons_succ, List.getElem?_cons_zero]; rfl) (by kernel_rfl) (by kernel_rfl) (by kernel_rfl) (by exact fun _ _ _ h => h) (Or.inl ⟨by rfl, ?hq1_5⟩) hHeld ?rq1_5
  case hq1_5 => (intro w hSw; (try dsimp only at hSw); go_simp; (try with_reducible rfl))
  try simp only [put_laws]
  refine wpAnyH_take (i := 6) (v := ?vq1_6) (by simp only [List.getElem?_toArray, List.getElem?_cons_succ, List.getElem?_cons_zero]; rfl) (by kernel_rfl) (by kernel_rfl) (by kernel_rfl) (by exact fun _ _ _ h => h) (Or.inl ⟨by rfl, ?hq1_6⟩) hHeld ?rq1_6
  case hq1_6 => (intro w hSw; (try dsimp only at hSw); go_simp; (try with_reducible rfl))
  try simp only [put_laws]
  refine wpAnyH_take (i := 7) (v := ?vq1_7) (by simp only [List.getElem?_toArray, List.getElem?_cons_succ, List.getElem?_cons_zero]; rfl) (by kernel_rfl) (by kernel_rfl) (by kernel_rfl) (by exact fun _ _ _ h => h) (Or.inl ⟨by rfl, ?hq1_7⟩) hHeld ?rq1_7
  case hq1_7 => (intro w hSw; (try dsimp only at hSw); go_simp; (try with_reducible rfl))
  try simp only [put_laws]
  refine wpAnyH_take (i := 9) (v := ?vq1_9) (by simp only [List.getElem?_toArray, List.getElem?_cons_succ, List.getElem?_cons_zero]; rfl) (by kernel_rfl) (by kernel_rfl) (by kernel_rfl) (by exact fun _ _ _ h => h) (Or.inl ⟨by rfl, ?hq1_9⟩) hHeld ?rq1_9
  case hq1_9 => (intro w hSw; (try dsimp only at hSw); go_simp; (try with_reducible rfl))
  try simp only [put_laws]
  refine wpAnyH_take (i := 10) (v := ?vq1_10) (by simp only [List.getElem?_toArray, List.getElem?_cons_succ, List.getElem?_cons_zero]; rfl) (by kernel_rfl) (by kernel_rfl) (by kernel_rfl) (by exact fun _ _ _ h => h) (Or.inl ⟨by rfl, ?hq1_10⟩) hHeld ?rq1_10
  case hq1_10 => (intro w hSw; (try dsimp only at hSw); go_simp; (try with_reducible rfl))
  try simp only [put_laws]
  refine wpAnyH_take (i := 11) (v := ?vq1_11) (by simp only [List.getElem?_toArray, List.getElem?_cons_succ, List.getElem?_cons_zero]; rfl) (by kernel_rfl) (by kernel_rfl) (by kernel_rfl) (by exact fun _ _ _ h => h) (Or.inl ⟨by rfl, ?hq1_11⟩) hHeld ?rq1_11
  case hq1_11 => (intro w hSw; (try dsimp only at hSw); go_simp; (try with_reducible rfl))
  try simp only [put_laws]
  refine wpAnyH_take (i := 14) (v := ?vq1_14) (by simp only [List.getElem?_toArray, List.getElem?_cons_succ, List.getElem?_cons_zero]; rfl) (by kernel_rfl) (by kernel_rfl) (by kernel_rfl) (by exact fun _ _ _ h => h) (Or.inl ⟨by rfl, ?hq1_14⟩) hHeld ?rq1_14
  case hq1_14 => (intro w hSw; (try dsimp only at hSw); go_simp; (try with_reducible rfl))
  try simp only [put_laws]
  refine wpAnyH_ready (rs := [8]) (by kernel_rfl) (by simp) ?_
  refine AllReadyH.cons (by simp only [List.getElem?_toArray, List.getElem?_cons_succ, List.getElem?_cons_zero]; rfl) (fun K hK => ?_) AllReadyH.nil
  go_simp
  (refine (planUnits_any _ hf d (xs.take hf) _ (by omega) ((IntsAt.takeN HI.out hfm).below hHeld)).mono ?_; rintro e w2 ⟨rfl, rfl⟩; rw [hx1.out])
  refine hK.out _ _ ?_ (fun hHeld => ?_)
  · (try dsimp only); (first | exact (Below.refl _ _).drew | exact hHeld | exact hHeld.trans (hb6.mono hHeld.size))
  clear hK K
  try simp only [put_laws]
  refine wpAnyH_ready (rs := [12]) (by kernel_rfl) (by simp) ?_
  refine AllReadyH.cons (by simp only [List.getElem?_toArray, List.getElem?_cons_succ, List.getElem?_cons_zero]; rfl) (fun K hK => ?_) AllReadyH.nil
  go_simp
  (refine (planUnits_any _ (m - hf) (d - hf) (xs.drop hf) _ (by omega) ((IntsAt.cutN HI.out hfm hm1).below hHeld)).mono ?_; rintro e w2 ⟨rfl, rfl⟩; rw [hx2.out])
  refine hK.out _ _ ?_ (fun hHeld => ?_)
  · (try dsimp only); (first | exact (Below.refl _ _).drew | exact hHeld | exact hHeld.trans (hb6.mono hHeld.size))
  clear hK K
  try simp only [put_laws]
  refine wpAnyH_take (i := 13) (v := ?vq1_13) (by simp only [List.getElem?_toArray, List.getElem?_cons_succ, List.getElem?_cons_zero]; rfl) (by kernel_rfl) (by kernel_rfl) (by kernel_rfl) (by exact fun _ _ _ h => h) (Or.inl ⟨by rfl, ?hq1_13⟩) hHeld ?rq1_13
  case hq1_13 => (intro w hSw; (try dsimp only at hSw); go_simp; (try with_reducible rfl))
  try simp only [put_laws]
  refine wpAnyH_take (i := 15) (v := ?vq1_15) (by simp only [List.getElem?_toArray, List.getElem?_cons_succ, List.getElem?_cons_zero]; rfl) (by kernel_rfl) (by kernel_rfl) (by kernel_rfl) (by exact fun _ _ _ h => h) (Or.inl ⟨by rfl, ?hq1_15⟩) hHeld ?rq1_15
  case hq1_15 => (intro w hSw; (try dsimp only at hSw); go_simp; (try with_reducible rfl))
  try simp only [put_laws]
  refine wpAnyH_take (i := 16) (v := ?vq1_16) (by simp only [List.getElem?_toArray, List.getElem?_cons_succ, List.getElem?_cons_zero]; rfl) (by kernel_rfl) (by kernel_rfl) (by kernel_rfl) (by exact fun _ _ _ h => h) (Or.inl ⟨by rfl, ?hq1_16⟩) hHeld ?rq1_16
  case hq1_16 => (intro w hSw; (try dsimp only at hSw); go_simp; (try with_reducible rfl))
  try simp only [put_laws]
  refine wpAnyH_take (i := 17) (v := ?vq1_17) (by simp only [List.getElem?_toArray, List.getElem?_cons_succ, List.getElem?_cons_zero]; rfl) (by kernel_rfl) (by kernel_rfl) (by kernel_rfl) (by exact fun _ _ _ h => h) (Or.inl ⟨by rfl, ?hq1_17⟩) hHeld ?rq1_17
  case hq1_17 => (intro w hSw; (try dsimp only at hSw); go_simp; (try with_reducible rfl))
  try simp only [put_laws]
  refine wpAnyH_take (i := 18) (v := ?vq1_18) (by simp only [List.getElem?_toArray, List.getElem?_cons_succ, List.getElem?_cons_zero]; rfl) (by kernel_rfl) (by kernel_rfl) (by kernel_rfl) (by exact fun _ _ _ h => h) (Or.inl ⟨by rfl, ?hq1_18⟩) hHeld ?rq1_18
  case hq1_18 => (intro w hSw; (try dsimp only at hSw); go_simp; (try with_reducible rfl))
  try simp only [put_laws]
  refine wpAnyH_take (i := 19) (v := ?vq1_19) (by simp only [List.getElem?_toArray, List.getElem?_cons_succ, List.getElem?_cons_zero]; rfl) (by kernel_rfl) (by kernel_rfl) (by kernel_rfl) (by exact fun _ _ _ h => h) (Or.inl ⟨by rfl, ?hq1_19⟩) hHeld ?rq1_19
  case hq1_19 => (intro w hSw; (try dsimp only at hSw); go_simp; (try with_reducible rfl))
  try simp only [put_laws]
  refine wpAnyH_ready (rs := [20]) (by kernel_rfl) (by simp) ?_
  refine AllReadyH.cons (by simp only [List.getElem?_toArray, List.getElem?_cons_succ, List.getElem?_cons_zero]; rfl) (fun K hK => ?_) AllReadyH.nil
  go_simp
  (refine (sumOf_any _ m d xs _ (by omega) (HI.out.below hHeld)).mono ?_; rintro e w2 ⟨rfl, rfl⟩; rw [HS.out])
  refine hK.out _ _ ?_ (fun hHeld => ?_)
  · (try dsimp only); (first | exact (Below.refl _ _).drew | exact hHeld | exact hHeld.trans (hb6.mono hHeld.size))
  clear hK K
  try simp only [put_laws]
  refine wpAnyH_take (i := 21) (v := ?vq1_21) (by simp only [List.getElem?_toArray, List.getElem?_cons_succ, List.getElem?_cons_zero]; rfl) (by kernel_rfl) (by kernel_rfl) (by kernel_rfl) (by exact fun _ _ _ h => h) (Or.inl ⟨by rfl, ?hq1_21⟩) hHeld ?rq1_21
  case hq1_21 => (intro w hSw; (try dsimp only at hSw); go_simp; (try with_reducible rfl))
  try simp only [put_laws]
  refine wpAnyH_take (i := 22) (v := ?vq1_22) (by simp only [List.getElem?_toArray, List.getElem?_cons_succ, List.getElem?_cons_zero]; rfl) (by kernel_rfl) (by kernel_rfl) (by kernel_rfl) (by exact fun _ _ _ h => h) (Or.inl ⟨by rfl, ?hq1_22⟩) hHeld ?rq1_22
  case hq1_22 => (intro w hSw; (try dsimp only at hSw); go_simp; (try with_reducible rfl))
  try simp only [put_laws]
  refine wpAnyH_take (i := 23) (v := ?vq1_23) (by simp only [List.getElem?_toArray, List.getElem?_cons_succ, List.getElem?_cons_zero]; rfl) (by kernel_rfl) (by kernel_rfl) (by kernel_rfl) (by exact fun _ _ _ h => h) (Or.inl ⟨by rfl, ?hq1_23⟩) hHeld ?rq1_23
  case hq1_23 => (intro w hSw; (try dsimp only at hSw); go_simp; (try with_reducible rfl))
  try simp only [put_laws]
  refine wpAnyH_ready (rs := [24]) (by kernel_rfl) (by simp) ?_
  refine AllReadyH.cons (by simp only [List.getElem?_toArray, List.getElem?_cons_succ, List.getElem?_cons_zero]; rfl) (fun K hK => ?_) AllReadyH.nil
  go_simp
  (refine (alive_any _).mono ?_; rintro e w6 ⟨rfl, hb6⟩)
  refine hK.out _ _ ?_ (fun hHeld => ?_)
  · (try dsimp only); (first | exact (Below.refl _ _).drew | exact hHeld | exact hHeld.trans (hb6.mono hHeld.size))
  clear hK K
  try simp only [put_laws]
  refine wpAnyH_take (i := 25) (v := ?vq1_25) (by simp only [List.getElem?_toArray, List.getElem?_cons_succ, List.getElem?_cons_zero]; rfl) (by kernel_rfl) (by kernel_rfl) (by kernel_rfl) (by exact fun _ _ _ h => h) (Or.inl ⟨by rfl, ?hq1_25⟩) hHeld ?rq1_25
  case hq1_25 => (intro w hSw; (try dsimp only at hSw); go_simp; (try with_reducible rfl))
  try simp only [put_laws]
  refine wpAnyH_take (i := 26) (v := ?vq1_26) (by simp only [List.getElem?_toArray, List.getElem?_cons_succ, List.getElem?_cons_zero]; rfl) (by kernel_rfl) (by kernel_rfl) (by kernel_rfl) (by exact fun _ _ _ h => h) (Or.inl ⟨by rfl, ?hq1_26⟩) hHeld ?rq1_26
  case hq1_26 => (intro w hSw; (try dsimp only at hSw); go_simp; (try with_reducible rfl))
  try simp only [put_laws]
  refine wpAnyH_done (by kernel_rfl) ?_ _
  go_wp2
  all_goals
    go_ret
    exact ⟨rfl, below_next hb1 hHeld⟩
end Go.Proofs.YtobkljhbmeglpaaDoor
