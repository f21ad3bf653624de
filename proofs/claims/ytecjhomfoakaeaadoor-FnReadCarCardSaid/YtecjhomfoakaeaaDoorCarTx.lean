/-
  CarText of the program and of the reference.
-/
import Derived.Test.YtecjhomfoakaeaaDoorCar1
import Derived.Test.YtecjhomfoakaeaaDoorC3
import Derived.Test.YtecjhomfoakaeaaDoorShelf
import Derived.Deep.QuietTactic
import Derived.BigQuiet
import Derived.Laws.IdiomStrings
import Derived.Laws.Concat
import Derived.Deep.RegionHeld
namespace Go.Proofs.YtecjhomfoakaeaaDoor
open Go.ChangeShapes Go.WideShapes Go.ChangeAt Go.RowKit

/-- The digits of a number below 100. -/
def dg (n : Nat) : UInt8 := UInt8.ofNat (48 + n)
def numT (n : Nat) : List UInt8 := if n < 10 then [dg n] else [dg (n / 10), dg (n % 10)]
theorem dec_num : ∀ n : Nat, n < 100 → Lib.decDigits n = numT n := by decide +kernel

theorem conv_at (n : Nat) (hn : n < 10) (g : Nat) (w : World) (hc : w.cell? ⟨g, 0, none⟩ = some (.int .u8 (48 + (n : Int)))) :
    (convert 28 9 (.slice (some ⟨g, 0, none⟩) 1 1)).run Tryd.prog w = .ok (.string ⟨#[dg n]⟩) w := by
  refine run_convert_bytes_back w 28 9 5 ⟨g, 0, none⟩ 1 [dg n] Tryd.underlying28 Tryd.underlying5 Tryd.underlying9 fun j hj => ?_
  have hj0 : j = 0 := by simpa using hj
  subst hj0
  have e : (⟨g, 0, none⟩ : Addr).add 0 = ⟨g, 0, none⟩ := by unfold Addr.add; split <;> simp_all
  rw [e, hc]
  have h2 : ((dg n).toNat : Int) = 48 + (n : Int) := by
    have h3 : ∀ m : Nat, m < 10 → ((dg m).toNat : Int) = 48 + (m : Int) := by decide +kernel
    exact h3 n hn
  show some (Value.int .u8 (48 + (n : Int))) = some (Value.int .u8 ((dg n).toNat : Int))
  rw [h2]
theorem conv_new (n : Nat) (hn : n < 10) (w : World) : (convert 28 9 (.slice (some ⟨w.heap.size, 0, none⟩) 1 1)).run Tryd.prog (w.alloc (.cells #[.int .u8 (48 + (n : Int))] 5)) = .ok (.string ⟨#[dg n]⟩) (w.alloc (.cells #[.int .u8 (48 + (n : Int))] 5)) :=
  conv_at n hn _ _ ((Whole.new w 5 [.int .u8 (48 + (n : Int))]).cell 0)

set_option maxRecDepth 100000 in
set_option maxHeartbeats 1000000 in
theorem l1Number_one (n : Nat) (hn : n < 10) (w : World) : Calls Tryd.prog 25 #[.int .i64 n] w (RV w (.string ⟨(numT n).toArray⟩)) := by
  have hd0 : decide ((n : Int) < 0) = false := by simp
  have hd1 : decide ((n : Int) < 10) = true := by simp; omega
  have hcv := conv_new n hn w
  go_enter Tryd.func25, Tryd.ntmps25
  go_wp2
  go_ret
  exact ⟨by unfold numT; rw [if_pos hn]; rfl, (Below.refl _ _).alloc (Nat.le_refl _) _⟩

set_option maxRecDepth 100000 in
set_option maxHeartbeats 1000000 in
theorem l1Number_any (n : Nat) (hn : n < 100) (w : World) : Calls Tryd.prog 25 #[.int .i64 n] w (RV w (.string ⟨(numT n).toArray⟩)) := by
  by_cases h10 : n < 10
  · exact l1Number_one n h10 w
  obtain ⟨a, b, ha, hb, rfl⟩ : ∃ a b : Nat, a < 10 ∧ b < 10 ∧ n = 10 * a + b := ⟨n / 10, n % 10, by omega, by omega, by omega⟩
  have ha1 : 1 ≤ a := by omega
  have hnum : numT (10 * a + b) = [dg a, dg b] := by
    unfold numT
    rw [if_neg h10, show (10 * a + b) / 10 = a by omega, show (10 * a + b) % 10 = b by omega]
  have hone : numT a = [dg a] := by unfold numT; rw [if_pos ha]
  obtain ⟨m, hm⟩ : ∃ m : Nat, Hid (m = 10 * a + b) := ⟨_, rfl⟩
  have hd0 : decide ((m : Int) < 0) = false := by simp
  have hd1 : decide ((m : Int) < 10) = false := by have := hm.out; simp; omega
  have hq1 : ((m : Int)).tdiv 10 = (a : Int) := by have := hm.out; rw [Int.tdiv_eq_ediv_of_nonneg (by omega)]; omega
  have hq2 : (m : Int) / 10 = (a : Int) := by have := hm.out; omega
  have hr1 : ((m : Int)).tmod 10 = (b : Int) := by have := hm.out; rw [Int.tmod_eq_emod_of_nonneg (by omega)]; omega
  have hr2 : (m : Int) % 10 = (b : Int) := by have := hm.out; omega
  have hw8 : IntKind.u8.wrap (48 + (b : Int)) = 48 + (b : Int) := by
    have h : ∀ b : Nat, b < 10 → IntKind.u8.wrap (48 + (b : Int)) = 48 + (b : Int) := by decide +kernel
    exact h b hb
  have hwa : IntKind.i64.wrap (a : Int) = (a : Int) := IntWalk.i64_in _ (by omega)
  have hw64 : IntKind.i64.wrap (48 + (b : Int)) = 48 + (b : Int) := IntWalk.i64_in _ (by omega)
  have HNU := Lib.hid hnum
  have HON := Lib.hid hone
  rw [← hm.out] at HNU ⊢
  clear hnum hone h10 hn
  go_enter Tryd.func25, Tryd.ntmps25
  go_wp2_with fail
  refine wp_region_held_drew (S := fun w' => Below w.heap.size w w') (by kernel_rfl) ?_ (fun hHeld => ?_)
  · (try dsimp only); exact (Below.refl _ _).drew
  refine wpAnyH_take (i := 0) (v := ?vz1_0) (by simp only [List.getElem?_toArray, List.getElem?_cons_zero]; rfl) (by kernel_rfl) (by kernel_rfl) (by kernel_rfl) (by exact fun _ _ _ h => h) (Or.inl ⟨by rfl, ?hz1_0⟩) hHeld ?rz1_0
  case hz1_0 => (intro w hSw; (try dsimp only at hSw); go_simp; (try with_reducible rfl))
  try simp only [put_laws]
  refine wpAnyH_take (i := 1) (v := ?vz2_1) (by simp only [List.getElem?_toArray, List.getElem?_cons_succ, List.getElem?_cons_zero]; rfl) (by kernel_rfl) (by kernel_rfl) (by kernel_rfl) (by exact fun _ _ _ h => h) (Or.inl ⟨by rfl, ?hz2_1⟩) hHeld ?rz2_1
  case hz2_1 => (intro w hSw; (try dsimp only at hSw); go_simp; (try with_reducible rfl))
  try simp only [put_laws]
  refine wpAnyH_take (i := 3) (v := ?vz3_3) (by simp only [List.getElem?_toArray, List.getElem?_cons_succ, List.getElem?_cons_zero]; rfl) (by kernel_rfl) (by kernel_rfl) (by kernel_rfl) (by exact fun _ _ _ h => h) (Or.inl ⟨by rfl, ?hz3_3⟩) hHeld ?rz3_3
  case hz3_3 => (intro w hSw; (try dsimp only at hSw); go_simp; (try with_reducible rfl))
  try simp only [put_laws]
  refine wpAnyH_take (i := 4) (v := ?vz4_4) (by simp only [List.getElem?_toArray, List.getElem?_cons_succ, List.getElem?_cons_zero]; rfl) (by kernel_rfl) (by kernel_rfl) (by kernel_rfl) (by exact fun _ _ _ h => h) (Or.inl ⟨by rfl, ?hz4_4⟩) hHeld ?rz4_4
  case hz4_4 => (intro w hSw; (try dsimp only at hSw); go_simp; (try with_reducible rfl))
  try simp only [put_laws]
  refine wpAnyH_take (i := 5) (v := ?vz5_5) (by simp only [List.getElem?_toArray, List.getElem?_cons_succ, List.getElem?_cons_zero]; rfl) (by kernel_rfl) (by kernel_rfl) (by kernel_rfl) (by exact fun _ _ _ h => h) (Or.inl ⟨by rfl, ?hz5_5⟩) hHeld ?rz5_5
  case hz5_5 => (intro w hSw; (try dsimp only at hSw); go_simp; (try with_reducible rfl))
  try simp only [put_laws]
  refine wpAnyH_take (i := 6) (v := ?vz6_6) (by simp only [List.getElem?_toArray, List.getElem?_cons_succ, List.getElem?_cons_zero]; rfl) (by kernel_rfl) (by kernel_rfl) (by kernel_rfl) (by exact fun _ _ _ h => h) (Or.inl ⟨by rfl, ?hz6_6⟩) hHeld ?rz6_6
  case hz6_6 => (intro w hSw; (try dsimp only at hSw); go_simp; (try with_reducible rfl))
  try simp only [put_laws]
  refine wpAnyH_ready (rs := [2, 7]) (by kernel_rfl) (by simp) ?_
  refine AllReadyH.cons (by simp only [List.getElem?_toArray, List.getElem?_cons_succ, List.getElem?_cons_zero]; rfl) (fun K hK => ?_) (AllReadyH.cons (by simp only [List.getElem?_toArray, List.getElem?_cons_succ, List.getElem?_cons_zero]; rfl) (fun K hK => ?_) AllReadyH.nil)
  · skip
    go_simp
    try rw [hwa]
    refine (l1Number_one a ha _).mono ?_; rintro e w2 ⟨rfl, hb2⟩; rw [HON.out]
    have hB2 : Below w.heap.size w w2 := (Below.refl _ w).drew.trans (hb2.mono (Nat.le_refl _))
    refine hK.out _ _ ?_ (fun hHeld => ?_)
    · (try dsimp only); exact hB2
    clear hK K
    try simp only [put_laws]
    refine wpAnyH_ready (rs := [7]) (by kernel_rfl) (by simp) ?_
    refine AllReadyH.cons (by simp only [List.getElem?_toArray, List.getElem?_cons_succ, List.getElem?_cons_zero]; rfl) (fun K hK => ?_) AllReadyH.nil
    go_simp
    have hBX := hB2.alloc hB2.size (.cells #[.int .u8 (48 + (b : Int))] 5)
    refine hK.out _ _ ?_ (fun hHeld => ?_)
    · (try dsimp only); exact hBX
    clear hK K
    try simp only [put_laws]
    refine wpAnyH_ready (rs := [8]) (by kernel_rfl) (by simp) ?_
    refine AllReadyH.cons (by simp only [List.getElem?_toArray, List.getElem?_cons_succ, List.getElem?_cons_zero]; rfl) (fun K hK => ?_) AllReadyH.nil
    have hcv := conv_new b hb w2
    go_simp
    refine hK.out _ _ ?_ (fun hHeld => ?_)
    · (try dsimp only); exact hBX
    clear hK K
    try simp only [put_laws]
    refine wpAnyH_take (i := 9) (v := ?vz51_9) (by simp only [List.getElem?_toArray, List.getElem?_cons_succ, List.getElem?_cons_zero]; rfl) (by kernel_rfl) (by kernel_rfl) (by kernel_rfl) (by exact fun _ _ _ h => h) (Or.inl ⟨by rfl, ?hz51_9⟩) hHeld ?rz51_9
    case hz51_9 => (intro w hSw; (try dsimp only at hSw); go_simp; (try with_reducible rfl))
    try simp only [put_laws]
    refine wpAnyH_take (i := 10) (v := ?vz52_10) (by simp only [List.getElem?_toArray, List.getElem?_cons_succ, List.getElem?_cons_zero]; rfl) (by kernel_rfl) (by kernel_rfl) (by kernel_rfl) (by exact fun _ _ _ h => h) (Or.inl ⟨by rfl, ?hz52_10⟩) hHeld ?rz52_10
    case hz52_10 => (intro w hSw; (try dsimp only at hSw); go_simp; (try with_reducible rfl))
    try simp only [put_laws]
    refine wpAnyH_done (by kernel_rfl) ?_ _
    go_wp2
    go_ret
    exact ⟨by rw [HNU.out]; rfl, hBX⟩
  · skip
    go_simp
    have hBX : Below w.heap.size w (w.alloc (.cells #[.int .u8 (48 + (b : Int))] 5)).drew := ((Below.refl _ w).alloc (Nat.le_refl _) _).drew
    have hWX : Whole (w.alloc (.cells #[.int .u8 (48 + (b : Int))] 5)).drew w.heap.size 5 [.int .u8 (48 + (b : Int))] := Whole.new w _ _
    refine hK.out _ _ ?_ (fun hHeld => ?_)
    · (try dsimp only); exact hBX
    clear hK K
    try simp only [put_laws]
    generalize (w.alloc (.cells #[.int .u8 (48 + (b : Int))] 5)).drew = wa at *
    refine wpAnyH_ready (rs := [2, 8]) (by kernel_rfl) (by simp) ?_
    refine AllReadyH.cons (by simp only [List.getElem?_toArray, List.getElem?_cons_succ, List.getElem?_cons_zero]; rfl) (fun K hK => ?_) (AllReadyH.cons (by simp only [List.getElem?_toArray, List.getElem?_cons_succ, List.getElem?_cons_zero]; rfl) (fun K hK => ?_) AllReadyH.nil)
    · skip
      go_simp
      try rw [hwa]
      refine (l1Number_one a ha _).mono ?_; rintro e w2 ⟨rfl, hb2⟩; rw [HON.out]
      have hB2 := below_next hBX hb2
      have hW2 := hWX.below hb2
      refine hK.out _ _ ?_ (fun hHeld => ?_)
      · (try dsimp only); exact hB2
      clear hK K
      try simp only [put_laws]
      refine wpAnyH_ready (rs := [8]) (by kernel_rfl) (by simp) ?_
      refine AllReadyH.cons (by simp only [List.getElem?_toArray, List.getElem?_cons_succ, List.getElem?_cons_zero]; rfl) (fun K hK => ?_) AllReadyH.nil
      have hcv := conv_at b hb _ w2 (hW2.cell 0)
      go_simp
      refine hK.out _ _ ?_ (fun hHeld => ?_)
      · (try dsimp only); exact hB2
      clear hK K
      try simp only [put_laws]
      refine wpAnyH_take (i := 9) (v := ?vz53_9) (by simp only [List.getElem?_toArray, List.getElem?_cons_succ, List.getElem?_cons_zero]; rfl) (by kernel_rfl) (by kernel_rfl) (by kernel_rfl) (by exact fun _ _ _ h => h) (Or.inl ⟨by rfl, ?hz53_9⟩) hHeld ?rz53_9
      case hz53_9 => (intro w hSw; (try dsimp only at hSw); go_simp; (try with_reducible rfl))
      try simp only [put_laws]
      refine wpAnyH_take (i := 10) (v := ?vz54_10) (by simp only [List.getElem?_toArray, List.getElem?_cons_succ, List.getElem?_cons_zero]; rfl) (by kernel_rfl) (by kernel_rfl) (by kernel_rfl) (by exact fun _ _ _ h => h) (Or.inl ⟨by rfl, ?hz54_10⟩) hHeld ?rz54_10
      case hz54_10 => (intro w hSw; (try dsimp only at hSw); go_simp; (try with_reducible rfl))
      try simp only [put_laws]
      refine wpAnyH_done (by kernel_rfl) ?_ _
      go_wp2
      go_ret
      exact ⟨by rw [HNU.out]; rfl, hB2⟩
    · skip
      have hcv := conv_at b hb _ wa (hWX.cell 0)
      go_simp
      refine hK.out _ _ ?_ (fun hHeld => ?_)
      · (try dsimp only); exact hBX
      clear hK K
      try simp only [put_laws]
      refine wpAnyH_ready (rs := [2]) (by kernel_rfl) (by simp) ?_
      refine AllReadyH.cons (by simp only [List.getElem?_toArray, List.getElem?_cons_succ, List.getElem?_cons_zero]; rfl) (fun K hK => ?_) AllReadyH.nil
      go_simp
      try rw [hwa]
      refine (l1Number_one a ha _).mono ?_; rintro e w2 ⟨rfl, hb2⟩; rw [HON.out]
      have hB2 := below_next hBX hb2
      refine hK.out _ _ ?_ (fun hHeld => ?_)
      · (try dsimp only); exact hB2
      clear hK K
      try simp only [put_laws]
      refine wpAnyH_take (i := 9) (v := ?vz55_9) (by simp only [List.getElem?_toArray, List.getElem?_cons_succ, List.getElem?_cons_zero]; rfl) (by kernel_rfl) (by kernel_rfl) (by kernel_rfl) (by exact fun _ _ _ h => h) (Or.inl ⟨by rfl, ?hz55_9⟩) hHeld ?rz55_9
      case hz55_9 => (intro w hSw; (try dsimp only at hSw); go_simp; (try with_reducible rfl))
      try simp only [put_laws]
      refine wpAnyH_take (i := 10) (v := ?vz56_10) (by simp only [List.getElem?_toArray, List.getElem?_cons_succ, List.getElem?_cons_zero]; rfl) (by kernel_rfl) (by kernel_rfl) (by kernel_rfl) (by exact fun _ _ _ h => h) (Or.inl ⟨by rfl, ?hz56_10⟩) hHeld ?rz56_10
      case hz56_10 => (intro w hSw; (try dsimp only at hSw); go_simp; (try with_reducible rfl))
      try simp only [put_laws]
      refine wpAnyH_done (by kernel_rfl) ?_ _
      go_wp2
      go_ret
      exact ⟨by rw [HNU.out]; rfl, hB2⟩

theorem itoa_any (n : Nat) (hn : n < 100) (w : World) : Calls Tryd.prog 23 #[.int .i64 n] w fun e w' => e = .returned (.string ⟨(numT n).toArray⟩) ∧ w' = w := by
  rw [← dec_num n hn]; exact Tryd.strconv_Itoa_small n hn w
theorem add_lists (x y : List UInt8) (h : x.length + y.length ≤ 1000) (w : World) : (Op.stringOp .add ⟨x.toArray⟩ ⟨y.toArray⟩).run Tryd.prog w = .ok (.string ⟨(x ++ y).toArray⟩) w := by
  rw [run_string_add_sum w ⟨x.toArray⟩ ⟨y.toArray⟩ (by show x.toArray.size + y.toArray.size ≤ _; simp; omega)]
  have e : (⟨x.toArray⟩ : ByteArray) ++ (⟨y.toArray⟩ : ByteArray) = ⟨(x ++ y).toArray⟩ := by
    apply ByteArray.ext; simp
  rw [e]
theorem numT_len (n : Nat) : (numT n).length ≤ 2 := by unfold numT; split <;> simp
/-- The text of a car; nothing if it is not valid. -/
def carT (f t r u : Int) : List UInt8 := if carB f t r u then numT f.toNat ++ [58] ++ numT t.toNat ++ [120] ++ numT r.toNat ++ [120] ++ numT u.toNat else []
theorem carB_spec {f t r u : Int} (h : carB f t r u = true) : 1 ≤ f ∧ f ≤ 99 ∧ 1 ≤ t ∧ t ≤ 9 ∧ 1 ≤ r ∧ r ≤ 9 ∧ 1 ≤ u ∧ u ≤ 9 := by simp [carB] at h; omega

set_option maxRecDepth 100000 in
set_option maxHeartbeats 2000000 in
theorem carText_any (f t r u : Int) (w : World) : Calls Tryd.prog 10 #[.agg #[.int .i64 f, .int .i64 t, .int .i64 r, .int .i64 u]] w (RV w (.string ⟨(carT f t r u).toArray⟩)) := by
  cases hv : carB f t r u
  · have HT : Hid (carT f t r u = []) := by show _ = _; unfold carT; rw [hv]; rfl
    have HV := Lib.hid hv
    clear hv
    go_enter Tryd.func10, Tryd.ntmps10
    go_wp2_with fail
    refine (carValid_any f t r u _).mono ?_; rintro e w1 ⟨rfl, hb1⟩
    rw [HV.out]
    go_wp2
    go_ret
    exact ⟨by rw [HT.out]; rfl, below_next ((Below.refl _ _).alloc (Nat.le_refl _) _) hb1⟩
  have hs := carB_spec hv
  have HV := Lib.hid hv
  have HT : Hid (carT f t r u = numT f.toNat ++ [58] ++ numT t.toNat ++ [120] ++ numT r.toNat ++ [120] ++ numT u.toNat) := by show _ = _; unfold carT; rw [hv]; rfl
  clear hv
  obtain ⟨f, rfl⟩ : ∃ k : Nat, f = k := ⟨f.toNat, by omega⟩
  obtain ⟨t, rfl⟩ : ∃ k : Nat, t = k := ⟨t.toNat, by omega⟩
  obtain ⟨r, rfl⟩ : ∃ k : Nat, r = k := ⟨r.toNat, by omega⟩
  obtain ⟨u, rfl⟩ : ∃ k : Nat, u = k := ⟨u.toNat, by omega⟩
  simp only [Int.toNat_natCast] at HT
  have hW := Whole.new w 23 [.int .i64 (f : Int), .int .i64 (t : Int), .int .i64 (r : Int), .int .i64 (u : Int)]
  have hB1 : Below w.heap.size w (w.alloc (.cells #[.int .i64 (f : Int), .int .i64 (t : Int), .int .i64 (r : Int), .int .i64 (u : Int)] 23)) := (Below.refl _ _).alloc (Nat.le_refl _) _
  go_enter Tryd.func10, Tryd.ntmps10
  go_wp2_with fail
  refine (carValid_any _ _ _ _ _).mono ?_; rintro e w1 ⟨rfl, hb1⟩
  rw [HV.out]
  have hW1 := hW.below hb1
  have hq0 := hW1.cell 0
  have hq1 := hW1.cell 1
  have hq2 := hW1.cell 2
  have hq3 := hW1.cell 3
  simp only [List.getElem?_cons_zero, List.getElem?_cons_succ] at hq0 hq1 hq2 hq3
  go_wp2_with fail
  have k1 : f < 100 := by omega
  have k2 : t < 100 := by omega
  have k3 : r < 100 := by omega
  have k4 : u < 100 := by omega
  have c1 := itoa_any f k1
  have c2 := itoa_any t k2
  have c3 := itoa_any r k3
  have c4 := itoa_any u k4
  have l1 := numT_len f
  have l2 := numT_len t
  have l3 := numT_len r
  have l4 := numT_len u
  obtain ⟨F, hF⟩ : ∃ x, Hid (x = numT f) := ⟨_, rfl⟩
  obtain ⟨T, hT⟩ : ∃ x, Hid (x = numT t) := ⟨_, rfl⟩
  obtain ⟨R, hR⟩ : ∃ x, Hid (x = numT r) := ⟨_, rfl⟩
  obtain ⟨U, hU⟩ : ∃ x, Hid (x = numT u) := ⟨_, rfl⟩
  rw [← hF.out] at l1 HT c1
  rw [← hT.out] at l2 HT c2
  rw [← hR.out] at l3 HT c3
  rw [← hU.out] at l4 HT c4
  obtain ⟨S1, hS1⟩ : ∃ x : List UInt8, Hid (x = F ++ [58]) := ⟨F ++ [58], Lib.hid rfl⟩
  have g1 : S1.length ≤ 3 := by rw [hS1.out]; simp; omega
  have a1 : ∀ w : World, (Op.stringOp .add ⟨F.toArray⟩ ⟨#[58]⟩).run Tryd.prog w = .ok (.string ⟨S1.toArray⟩) w := by rw [hS1.out]; exact add_lists F [58] (by simp; omega)
  obtain ⟨S2, hS2⟩ : ∃ x, Hid (x = S1 ++ T) := ⟨_, rfl⟩
  have g2 : S2.length ≤ 5 := by rw [hS2.out]; simp; omega
  have a2 : ∀ w : World, (Op.stringOp .add ⟨S1.toArray⟩ ⟨T.toArray⟩).run Tryd.prog w = .ok (.string ⟨S2.toArray⟩) w := by rw [hS2.out]; exact add_lists S1 T (by omega)
  obtain ⟨S3, hS3⟩ : ∃ x : List UInt8, Hid (x = S2 ++ [120]) := ⟨S2 ++ [120], Lib.hid rfl⟩
  have g3 : S3.length ≤ 6 := by rw [hS3.out]; simp; omega
  have a3 : ∀ w : World, (Op.stringOp .add ⟨S2.toArray⟩ ⟨#[120]⟩).run Tryd.prog w = .ok (.string ⟨S3.toArray⟩) w := by rw [hS3.out]; exact add_lists S2 [120] (by simp; omega)
  obtain ⟨S4, hS4⟩ : ∃ x, Hid (x = S3 ++ R) := ⟨_, rfl⟩
  have g4 : S4.length ≤ 8 := by rw [hS4.out]; simp; omega
  have a4 : ∀ w : World, (Op.stringOp .add ⟨S3.toArray⟩ ⟨R.toArray⟩).run Tryd.prog w = .ok (.string ⟨S4.toArray⟩) w := by rw [hS4.out]; exact add_lists S3 R (by omega)
  obtain ⟨S5, hS5⟩ : ∃ x : List UInt8, Hid (x = S4 ++ [120]) := ⟨S4 ++ [120], Lib.hid rfl⟩
  have g5 : S5.length ≤ 9 := by rw [hS5.out]; simp; omega
  have a5 : ∀ w : World, (Op.stringOp .add ⟨S4.toArray⟩ ⟨#[120]⟩).run Tryd.prog w = .ok (.string ⟨S5.toArray⟩) w := by rw [hS5.out]; exact add_lists S4 [120] (by simp; omega)
  obtain ⟨S6, hS6⟩ : ∃ x, Hid (x = S5 ++ U) := ⟨_, rfl⟩
  have a6 : ∀ w : World, (Op.stringOp .add ⟨S5.toArray⟩ ⟨U.toArray⟩).run Tryd.prog w = .ok (.string ⟨S6.toArray⟩) w := by rw [hS6.out]; exact add_lists S5 U (by omega)
  clear g1 g2 g3 g4 g5 l1 l2 l3 l4 k1 k2 k3 k4
  go_quiet ((go_at_call 23; first | exact Calls.quiet_of_same (c1 _) | exact Calls.quiet_of_same (c2 _) | exact Calls.quiet_of_same (c3 _) | exact Calls.quiet_of_same (c4 _)))
  go_wp2
  go_ret
  refine ⟨?_, below_drewN (below_next hB1 hb1) _⟩
  rw [HT.out]
  have e : S6 = F ++ [58] ++ T ++ [120] ++ R ++ [120] ++ U := by rw [hS6.out, hS5.out, hS4.out, hS3.out, hS2.out, hS1.out]
  rw [← e]; rfl
set_option maxRecDepth 100000 in
set_option maxHeartbeats 2000000 in
theorem specCarText_any (f t r u : Int) (w : World) : Calls Tryd.prog 11 #[.agg #[.int .i64 f, .int .i64 t, .int .i64 r, .int .i64 u]] w (RV w (.string ⟨(carT f t r u).toArray⟩)) := by
  cases hv : carB f t r u
  · have HT : Hid (carT f t r u = []) := by show _ = _; unfold carT; rw [hv]; rfl
    have HV := Lib.hid hv
    clear hv
    go_enter Tryd.func11, Tryd.ntmps11
    go_wp2_with fail
    refine (specCarValid_any f t r u _).mono ?_; rintro e w1 ⟨rfl, hb1⟩
    rw [HV.out]
    go_wp2
    go_ret
    exact ⟨by rw [HT.out]; rfl, below_next ((Below.refl _ _).alloc (Nat.le_refl _) _) hb1⟩
  have hs := carB_spec hv
  have HV := Lib.hid hv
  have HT : Hid (carT f t r u = numT f.toNat ++ [58] ++ numT t.toNat ++ [120] ++ numT r.toNat ++ [120] ++ numT u.toNat) := by show _ = _; unfold carT; rw [hv]; rfl
  clear hv
  obtain ⟨f, rfl⟩ : ∃ k : Nat, f = k := ⟨f.toNat, by omega⟩
  obtain ⟨t, rfl⟩ : ∃ k : Nat, t = k := ⟨t.toNat, by omega⟩
  obtain ⟨r, rfl⟩ : ∃ k : Nat, r = k := ⟨r.toNat, by omega⟩
  obtain ⟨u, rfl⟩ : ∃ k : Nat, u = k := ⟨u.toNat, by omega⟩
  simp only [Int.toNat_natCast] at HT
  have hW := Whole.new w 23 [.int .i64 (f : Int), .int .i64 (t : Int), .int .i64 (r : Int), .int .i64 (u : Int)]
  have hB1 : Below w.heap.size w (w.alloc (.cells #[.int .i64 (f : Int), .int .i64 (t : Int), .int .i64 (r : Int), .int .i64 (u : Int)] 23)) := (Below.refl _ _).alloc (Nat.le_refl _) _
  go_enter Tryd.func11, Tryd.ntmps11
  go_wp2_with fail
  refine (specCarValid_any _ _ _ _ _).mono ?_; rintro e w1 ⟨rfl, hb1⟩
  rw [HV.out]
  have hW1 := hW.below hb1
  have hq0 := hW1.cell 0
  have hq1 := hW1.cell 1
  have hq2 := hW1.cell 2
  have hq3 := hW1.cell 3
  simp only [List.getElem?_cons_zero, List.getElem?_cons_succ] at hq0 hq1 hq2 hq3
  go_wp2_with fail
  have k1 : f < 100 := by omega
  have k2 : t < 100 := by omega
  have k3 : r < 100 := by omega
  have k4 : u < 100 := by omega
  have l1 := numT_len f
  have l2 := numT_len t
  have l3 := numT_len r
  have l4 := numT_len u
  obtain ⟨F, hF⟩ : ∃ x, Hid (x = numT f) := ⟨_, rfl⟩
  obtain ⟨T, hT⟩ : ∃ x, Hid (x = numT t) := ⟨_, rfl⟩
  obtain ⟨R, hR⟩ : ∃ x, Hid (x = numT r) := ⟨_, rfl⟩
  obtain ⟨U, hU⟩ : ∃ x, Hid (x = numT u) := ⟨_, rfl⟩
  rw [← hF.out] at l1 HT
  rw [← hT.out] at l2 HT
  rw [← hR.out] at l3 HT
  rw [← hU.out] at l4 HT
  obtain ⟨S1, hS1⟩ : ∃ x : List UInt8, Hid (x = F ++ [58]) := ⟨F ++ [58], Lib.hid rfl⟩
  have g1 : S1.length ≤ 3 := by rw [hS1.out]; simp; omega
  have a1 : ∀ w : World, (Op.stringOp .add ⟨F.toArray⟩ ⟨#[58]⟩).run Tryd.prog w = .ok (.string ⟨S1.toArray⟩) w := by rw [hS1.out]; exact add_lists F [58] (by simp; omega)
  obtain ⟨S2, hS2⟩ : ∃ x, Hid (x = S1 ++ T) := ⟨_, rfl⟩
  have g2 : S2.length ≤ 5 := by rw [hS2.out]; simp; omega
  have a2 : ∀ w : World, (Op.stringOp .add ⟨S1.toArray⟩ ⟨T.toArray⟩).run Tryd.prog w = .ok (.string ⟨S2.toArray⟩) w := by rw [hS2.out]; exact add_lists S1 T (by omega)
  obtain ⟨S3, hS3⟩ : ∃ x : List UInt8, Hid (x = S2 ++ [120]) := ⟨S2 ++ [120], Lib.hid rfl⟩
  have g3 : S3.length ≤ 6 := by rw [hS3.out]; simp; omega
  have a3 : ∀ w : World, (Op.stringOp .add ⟨S2.toArray⟩ ⟨#[120]⟩).run Tryd.prog w = .ok (.string ⟨S3.toArray⟩) w := by rw [hS3.out]; exact add_lists S2 [120] (by simp; omega)
  obtain ⟨S4, hS4⟩ : ∃ x, Hid (x = S3 ++ R) := ⟨_, rfl⟩
  have g4 : S4.length ≤ 8 := by rw [hS4.out]; simp; omega
  have a4 : ∀ w : World, (Op.stringOp .add ⟨S3.toArray⟩ ⟨R.toArray⟩).run Tryd.prog w = .ok (.string ⟨S4.toArray⟩) w := by rw [hS4.out]; exact add_lists S3 R (by omega)
  obtain ⟨S5, hS5⟩ : ∃ x : List UInt8, Hid (x = S4 ++ [120]) := ⟨S4 ++ [120], Lib.hid rfl⟩
  have g5 : S5.length ≤ 9 := by rw [hS5.out]; simp; omega
  have a5 : ∀ w : World, (Op.stringOp .add ⟨S4.toArray⟩ ⟨#[120]⟩).run Tryd.prog w = .ok (.string ⟨S5.toArray⟩) w := by rw [hS5.out]; exact add_lists S4 [120] (by simp; omega)
  obtain ⟨S6, hS6⟩ : ∃ x, Hid (x = S5 ++ U) := ⟨_, rfl⟩
  have a6 : ∀ w : World, (Op.stringOp .add ⟨S5.toArray⟩ ⟨U.toArray⟩).run Tryd.prog w = .ok (.string ⟨S6.toArray⟩) w := by rw [hS6.out]; exact add_lists S5 U (by omega)
  have hQl := hW1.lt
  obtain ⟨Q, hQ⟩ : ∃ x, Hid (x = w.heap.size) := ⟨_, rfl⟩
  rw [← hQ.out] at hq0 hq1 hq2 hq3 hQl ⊢
  clear g1 g2 g3 g4 g5 l1 l2 l3 l4
  refine wp_region_held_drew (S := (fun w' => w'.cell? ⟨Q, 0, none⟩ = some (.int .i64 (f : Int)) ∧ w'.cell? ⟨Q, 1, none⟩ = some (.int .i64 (t : Int)) ∧ w'.cell? ⟨Q, 2, none⟩ = some (.int .i64 (r : Int)) ∧ w'.cell? ⟨Q, 3, none⟩ = some (.int .i64 (u : Int)) ∧ Below w1.heap.size w1 w')) (by kernel_rfl) ?_ (fun hHeld => ?_)
  · (try dsimp only); (first | exact ⟨hq0, hq1, hq2, hq3, (Below.refl _ _).drew⟩ | exact ⟨(hb6.cell (p := ⟨Q, 0, none⟩) (Nat.lt_of_lt_of_le hQl hHeld.2.2.2.2.size)).trans hHeld.1, (hb6.cell (p := ⟨Q, 1, none⟩) (Nat.lt_of_lt_of_le hQl hHeld.2.2.2.2.size)).trans hHeld.2.1, (hb6.cell (p := ⟨Q, 2, none⟩) (Nat.lt_of_lt_of_le hQl hHeld.2.2.2.2.size)).trans hHeld.2.2.1, (hb6.cell (p := ⟨Q, 3, none⟩) (Nat.lt_of_lt_of_le hQl hHeld.2.2.2.2.size)).trans hHeld.2.2.2.1, hHeld.2.2.2.2.trans (hb6.mono hHeld.2.2.2.2.size)⟩)
  refine wpAnyH_take (i := 0) (v := ?vq1_0) (by simp only [List.getElem?_toArray, List.getElem?_cons_zero]; rfl) (by kernel_rfl) (by kernel_rfl) (by kernel_rfl) (by exact fun _ _ _ h => h) (Or.inl ⟨by rfl, ?hq1_0⟩) hHeld ?rq1_0
  case hq1_0 => (intro w hSw; (try dsimp only at hSw); go_simp; (try with_reducible rfl))
  try simp only [put_laws]
  refine wpAnyH_take (i := 1) (v := ?vq1_1) (by simp only [List.getElem?_toArray, List.getElem?_cons_succ, List.getElem?_cons_zero]; rfl) (by kernel_rfl) (by kernel_rfl) (by kernel_rfl) (by exact fun _ _ _ h => h) (Or.inl ⟨by rfl, ?hq1_1⟩) hHeld ?rq1_1
  case hq1_1 => (intro w hSw; (try dsimp only at hSw); go_simp; (try with_reducible rfl))
  try simp only [put_laws]
  refine wpAnyH_take (i := 4) (v := ?vq1_4) (by simp only [List.getElem?_toArray, List.getElem?_cons_succ, List.getElem?_cons_zero]; rfl) (by kernel_rfl) (by kernel_rfl) (by kernel_rfl) (by exact fun _ _ _ h => h) (Or.inl ⟨by rfl, ?hq1_4⟩) hHeld ?rq1_4
  case hq1_4 => (intro w hSw; (try dsimp only at hSw); go_simp; (try with_reducible rfl))
  try simp only [put_laws]
  refine wpAnyH_take (i := 5) (v := ?vq1_5) (by simp only [List.getElem?_toArray, List.getElem?_cons_succ, List.getElem?_cons_zero]; rfl) (by kernel_rfl) (by kernel_rfl) (by kernel_rfl) (by exact fun _ _ _ h => h) (Or.inl ⟨by rfl, ?hq1_5⟩) hHeld ?rq1_5
  case hq1_5 => (intro w hSw; (try dsimp only at hSw); go_simp; (try with_reducible rfl))
  try simp only [put_laws]
  refine wpAnyH_take (i := 9) (v := ?vq1_9) (by simp only [List.getElem?_toArray, List.getElem?_cons_succ, List.getElem?_cons_zero]; rfl) (by kernel_rfl) (by kernel_rfl) (by kernel_rfl) (by exact fun _ _ _ h => h) (Or.inl ⟨by rfl, ?hq1_9⟩) hHeld ?rq1_9
  case hq1_9 => (intro w hSw; (try dsimp only at hSw); go_simp; (try with_reducible rfl))
  try simp only [put_laws]
  refine wpAnyH_take (i := 10) (v := ?vq1_10) (by simp only [List.getElem?_toArray, List.getElem?_cons_succ, List.getElem?_cons_zero]; rfl) (by kernel_rfl) (by kernel_rfl) (by kernel_rfl) (by exact fun _ _ _ h => h) (Or.inl ⟨by rfl, ?hq1_10⟩) hHeld ?rq1_10
  case hq1_10 => (intro w hSw; (try dsimp only at hSw); go_simp; (try with_reducible rfl))
  try simp only [put_laws]
  refine wpAnyH_take (i := 14) (v := ?vq1_14) (by simp only [List.getElem?_toArray, List.getElem?_cons_succ, List.getElem?_cons_zero]; rfl) (by kernel_rfl) (by kernel_rfl) (by kernel_rfl) (by exact fun _ _ _ h => h) (Or.inl ⟨by rfl, ?hq1_14⟩) hHeld ?rq1_14
  case hq1_14 => (intro w hSw; (try dsimp only at hSw); go_simp; (try with_reducible rfl))
  try simp only [put_laws]
  refine wpAnyH_take (i := 15) (v := ?vq1_15) (by simp only [List.getElem?_toArray, List.getElem?_cons_succ, List.getElem?_cons_zero]; rfl) (by kernel_rfl) (by kernel_rfl) (by kernel_rfl) (by exact fun _ _ _ h => h) (Or.inl ⟨by rfl, ?hq1_15⟩) hHeld ?rq1_15
  case hq1_15 => (intro w hSw; (try dsimp only at hSw); go_simp; (try with_reducible rfl))
  try simp only [put_laws]
  refine wpAnyH_ready (rs := [2]) (by kernel_rfl) (by simp) ?_
  refine AllReadyH.cons (by simp only [List.getElem?_toArray, List.getElem?_cons_succ, List.getElem?_cons_zero]; rfl) (fun K hK => ?_) AllReadyH.nil
  go_simp
  (refine (l1Number_any f k1 _).mono ?_; rintro e w6 ⟨rfl, hb6⟩; rw [← hF.out])
  refine hK.out _ _ ?_ (fun hHeld => ?_)
  · (try dsimp only); (first | exact ⟨hq0, hq1, hq2, hq3, (Below.refl _ _).drew⟩ | exact ⟨(hb6.cell (p := ⟨Q, 0, none⟩) (Nat.lt_of_lt_of_le hQl hHeld.2.2.2.2.size)).trans hHeld.1, (hb6.cell (p := ⟨Q, 1, none⟩) (Nat.lt_of_lt_of_le hQl hHeld.2.2.2.2.size)).trans hHeld.2.1, (hb6.cell (p := ⟨Q, 2, none⟩) (Nat.lt_of_lt_of_le hQl hHeld.2.2.2.2.size)).trans hHeld.2.2.1, (hb6.cell (p := ⟨Q, 3, none⟩) (Nat.lt_of_lt_of_le hQl hHeld.2.2.2.2.size)).trans hHeld.2.2.2.1, hHeld.2.2.2.2.trans (hb6.mono hHeld.2.2.2.2.size)⟩)
  clear hK K
  try simp only [put_laws]
  refine wpAnyH_take (i := 3) (v := ?vq1_3) (by simp only [List.getElem?_toArray, List.getElem?_cons_succ, List.getElem?_cons_zero]; rfl) (by kernel_rfl) (by kernel_rfl) (by kernel_rfl) (by exact fun _ _ _ h => h) (Or.inl ⟨by rfl, ?hq1_3⟩) hHeld ?rq1_3
  case hq1_3 => (intro w hSw; (try dsimp only at hSw); go_simp; (try with_reducible rfl))
  try simp only [put_laws]
  refine wpAnyH_ready (rs := [6]) (by kernel_rfl) (by simp) ?_
  refine AllReadyH.cons (by simp only [List.getElem?_toArray, List.getElem?_cons_succ, List.getElem?_cons_zero]; rfl) (fun K hK => ?_) AllReadyH.nil
  go_simp
  (refine (l1Number_any t k2 _).mono ?_; rintro e w6 ⟨rfl, hb6⟩; rw [← hT.out])
  refine hK.out _ _ ?_ (fun hHeld => ?_)
  · (try dsimp only); (first | exact ⟨hq0, hq1, hq2, hq3, (Below.refl _ _).drew⟩ | exact ⟨(hb6.cell (p := ⟨Q, 0, none⟩) (Nat.lt_of_lt_of_le hQl hHeld.2.2.2.2.size)).trans hHeld.1, (hb6.cell (p := ⟨Q, 1, none⟩) (Nat.lt_of_lt_of_le hQl hHeld.2.2.2.2.size)).trans hHeld.2.1, (hb6.cell (p := ⟨Q, 2, none⟩) (Nat.lt_of_lt_of_le hQl hHeld.2.2.2.2.size)).trans hHeld.2.2.1, (hb6.cell (p := ⟨Q, 3, none⟩) (Nat.lt_of_lt_of_le hQl hHeld.2.2.2.2.size)).trans hHeld.2.2.2.1, hHeld.2.2.2.2.trans (hb6.mono hHeld.2.2.2.2.size)⟩)
  clear hK K
  try simp only [put_laws]
  refine wpAnyH_take (i := 7) (v := ?vq1_7) (by simp only [List.getElem?_toArray, List.getElem?_cons_succ, List.getElem?_cons_zero]; rfl) (by kernel_rfl) (by kernel_rfl) (by kernel_rfl) (by exact fun _ _ _ h => h) (Or.inl ⟨by rfl, ?hq1_7⟩) hHeld ?rq1_7
  case hq1_7 => (intro w hSw; (try dsimp only at hSw); go_simp; (try with_reducible rfl))
  try simp only [put_laws]
  refine wpAnyH_take (i := 8) (v := ?vq1_8) (by simp only [List.getElem?_toArray, List.getElem?_cons_succ, List.getElem?_cons_zero]; rfl) (by kernel_rfl) (by kernel_rfl) (by kernel_rfl) (by exact fun _ _ _ h => h) (Or.inl ⟨by rfl, ?hq1_8⟩) hHeld ?rq1_8
  case hq1_8 => (intro w hSw; (try dsimp only at hSw); go_simp; (try with_reducible rfl))
  try simp only [put_laws]
  refine wpAnyH_ready (rs := [11]) (by kernel_rfl) (by simp) ?_
  refine AllReadyH.cons (by simp only [List.getElem?_toArray, List.getElem?_cons_succ, List.getElem?_cons_zero]; rfl) (fun K hK => ?_) AllReadyH.nil
  go_simp
  (refine (l1Number_any r k3 _).mono ?_; rintro e w6 ⟨rfl, hb6⟩; rw [← hR.out])
  refine hK.out _ _ ?_ (fun hHeld => ?_)
  · (try dsimp only); (first | exact ⟨hq0, hq1, hq2, hq3, (Below.refl _ _).drew⟩ | exact ⟨(hb6.cell (p := ⟨Q, 0, none⟩) (Nat.lt_of_lt_of_le hQl hHeld.2.2.2.2.size)).trans hHeld.1, (hb6.cell (p := ⟨Q, 1, none⟩) (Nat.lt_of_lt_of_le hQl hHeld.2.2.2.2.size)).trans hHeld.2.1, (hb6.cell (p := ⟨Q, 2, none⟩) (Nat.lt_of_lt_of_le hQl hHeld.2.2.2.2.size)).trans hHeld.2.2.1, (hb6.cell (p := ⟨Q, 3, none⟩) (Nat.lt_of_lt_of_le hQl hHeld.2.2.2.2.size)).trans hHeld.2.2.2.1, hHeld.2.2.2.2.trans (hb6.mono hHeld.2.2.2.2.size)⟩)
  clear hK K
  try simp only [put_laws]
  refine wpAnyH_take (i := 12) (v := ?vq1_12) (by simp only [List.getElem?_toArray, List.getElem?_cons_succ, List.getElem?_cons_zero]; rfl) (by kernel_rfl) (by kernel_rfl) (by kernel_rfl) (by exact fun _ _ _ h => h) (Or.inl ⟨by rfl, ?hq1_12⟩) hHeld ?rq1_12
  case hq1_12 => (intro w hSw; (try dsimp only at hSw); go_simp; (try with_reducible rfl))
  try simp only [put_laws]
  refine wpAnyH_take (i := 13) (v := ?vq1_13) (by simp only [List.getElem?_toArray, List.getElem?_cons_succ, List.getElem?_cons_zero]; rfl) (by kernel_rfl) (by kernel_rfl) (by kernel_rfl) (by exact fun _ _ _ h => h) (Or.inl ⟨by rfl, ?hq1_13⟩) hHeld ?rq1_13
  case hq1_13 => (intro w hSw; (try dsimp only at hSw); go_simp; (try with_reducible rfl))
  try simp only [put_laws]
  refine wpAnyH_ready (rs := [16]) (by kernel_rfl) (by simp) ?_
  refine AllReadyH.cons (by simp only [List.getElem?_toArray, List.getElem?_cons_succ, List.getElem?_cons_zero]; rfl) (fun K hK => ?_) AllReadyH.nil
  go_simp
  (refine (l1Number_any u k4 _).mono ?_; rintro e w6 ⟨rfl, hb6⟩; rw [← hU.out])
  refine hK.out _ _ ?_ (fun hHeld => ?_)
  · (try dsimp only); (first | exact ⟨hq0, hq1, hq2, hq3, (Below.refl _ _).drew⟩ | exact ⟨(hb6.cell (p := ⟨Q, 0, none⟩) (Nat.lt_of_lt_of_le hQl hHeld.2.2.2.2.size)).trans hHeld.1, (hb6.cell (p := ⟨Q, 1, none⟩) (Nat.lt_of_lt_of_le hQl hHeld.2.2.2.2.size)).trans hHeld.2.1, (hb6.cell (p := ⟨Q, 2, none⟩) (Nat.lt_of_lt_of_le hQl hHeld.2.2.2.2.size)).trans hHeld.2.2.1, (hb6.cell (p := ⟨Q, 3, none⟩) (Nat.lt_of_lt_of_le hQl hHeld.2.2.2.2.size)).trans hHeld.2.2.2.1, hHeld.2.2.2.2.trans (hb6.mono hHeld.2.2.2.2.size)⟩)
  clear hK K
  try simp only [put_laws]
  refine wpAnyH_take (i := 17) (v := ?vq1_17) (by simp only [List.getElem?_toArray, List.getElem?_cons_succ, List.getElem?_cons_zero]; rfl) (by kernel_rfl) (by kernel_rfl) (by kernel_rfl) (by exact fun _ _ _ h => h) (Or.inl ⟨by rfl, ?hq1_17⟩) hHeld ?rq1_17
  case hq1_17 => (intro w hSw; (try dsimp only at hSw); go_simp; (try with_reducible rfl))
  try simp only [put_laws]
  refine wpAnyH_take (i := 18) (v := ?vq1_18) (by simp only [List.getElem?_toArray, List.getElem?_cons_succ, List.getElem?_cons_zero]; rfl) (by kernel_rfl) (by kernel_rfl) (by kernel_rfl) (by exact fun _ _ _ h => h) (Or.inl ⟨by rfl, ?hq1_18⟩) hHeld ?rq1_18
  case hq1_18 => (intro w hSw; (try dsimp only at hSw); go_simp; (try with_reducible rfl))
  try simp only [put_laws]
  refine wpAnyH_done (by kernel_rfl) ?_ _
  go_wp2
  go_ret
  refine ⟨?_, below_next (below_next hB1 hb1) hHeld.2.2.2.2⟩
  rw [HT.out]
  have e : S6 = F ++ [58] ++ T ++ [120] ++ R ++ [120] ++ U := by rw [hS6.out, hS5.out, hS4.out, hS3.out, hS2.out, hS1.out]
  rw [← e]; rfl
end Go.Proofs.YtecjhomfoakaeaaDoor
