/-
  The law FnGiveMany: those of two parts of a list are together those of all; one more with a place, none more with -1.
-/
import Derived.Test.YtpipbkefelcmbaaDoorDrGive
import Derived.Test.YtpipbkefelcmbaaDoorWpI
import Derived.Test.YtpipbkefelcmbaaDoorSum
import Derived.Test.YtpipbkefelcmbaaDoorAlive
import Derived.Deep.RegionHeld
namespace Go.Proofs.YtpipbkefelcmbaaDoor
open Go.ChangeShapes Go.WideShapes Go.ChangeAt Go.RowKit

def DrawGmR (w : World) (e : Ending) (w' : World) : Prop :=
  ∃ (g m d : Nat) (xs : List Int), e = .returned (.slice (some ⟨g, 0, none⟩) m d) ∧ IntsAt w' (some ⟨g, 0, none⟩) m xs ∧ (m ≤ d ∧ d ≤ maxLen) ∧ m ≤ 8 ∧ Below w.heap.size w w'
set_option maxHeartbeats 1000000 in
theorem drawGiveMany_any (w : World) (A : Option Addr) (n c : Nat) (bs : List Int) (hn : n ≤ c ∧ c ≤ 9223372036854775807) (hb : BytesAt w A n bs) :
    Calls Tryd.prog 33 #[.slice A n c] w (DrawGmR w) := by
  go_enter Tryd.func33, Tryd.ntmps33
  go_wp2_with fail
  refine (open_any w A n c bs hn hb).mono ?_; rintro e w2 ⟨R, A1, n1, c1, bs1, rfl, hR2⟩
  go_wp2_with fail
  refine (l20Give_any w w2 R A1 n1 c1 bs1 0 hR2 (by omega)).mono ?_; rintro e w3 ⟨g, m, d, cs, g2, m2, d2, ps, g3, m3, d3, gs, rfl, -, -, -, -, hG, hm3, hR3, -⟩
  go_wp2
  go_ret
  exact ⟨g3, m3, d3, gs, rfl, (OwnAt.farInts hG).ints, (OwnAt.farInts hG).cap, hm3, hR3.bw⟩

theorem manyN_split (xs : List Int) (k : Nat) : manyN (xs.take k) + manyN (xs.drop k) = manyN xs := by
  unfold manyN
  rw [← List.length_append, ← List.filter_append, List.take_append_drop]
theorem manyN_zero (xs : List Int) : ((manyN (xs ++ [0]) : Nat) : Int) = (manyN xs : Int) + 1 := by
  unfold manyN; rw [List.filter_append]; simp
theorem manyN_none (xs : List Int) : manyN (xs ++ [-1]) = manyN xs := by
  unfold manyN; rw [List.filter_append]; simp

set_option maxRecDepth 100000 in
set_option maxHeartbeats 4000000 in
theorem lawGiveMany (A : Option Addr) (n c : Nat) (bs : List Int) (w : World) (hn : n ≤ c ∧ c ≤ 9223372036854775807) (hb : BytesAt w A n bs) :
    Calls Tryd.prog 9 #[.slice A n c] w (RV w (.bool true)) := by
  obtain ⟨hn1, hn2⟩ := hn
  by_cases hbig : 1048576 < n
  · have hd : decide (1048576 < n) = true := by simpa using hbig
    go_enter Tryd.func9, Tryd.ntmps9
    go_wp2
    go_ret
    exact ⟨rfl, Below.refl _ _⟩
  have hd : decide (1048576 < n) = false := by simpa using hbig
  have HB := Lib.hid hb
  clear hb
  go_enter Tryd.func9, Tryd.ntmps9
  go_wp2_with fail
  refine (drawGiveMany_any w A n c bs ⟨hn1, hn2⟩ HB.out).mono ?_; rintro e w1 ⟨g, m, d, xs, rfl, hI, ⟨hm1, hm2⟩, hm8, hb1⟩
  unfold maxLen at hm2
  clear HB hn1 hn2 hbig hd
  obtain ⟨hf, hfm, hfe⟩ : ∃ hf : Nat, hf ≤ m ∧ Hid (m / 2 = hf) := ⟨_, Nat.div_le_self _ _, rfl⟩
  have t1 : ((m : Int)).tdiv 2 = (hf : Int) := by rw [← hfe.out]; rfl
  have t1b : ((m : Int)) / 2 = (hf : Int) := by rw [← hfe.out]; rfl
  have hsp := manyN_split xs hf
  have hle := manyN_le xs
  have hll := hI.len
  have hz1 := manyN_zero xs
  have hz2 := manyN_none xs
  obtain ⟨x1, hx1⟩ : ∃ x, Hid (manyN (xs.take hf) = x) := ⟨_, rfl⟩
  obtain ⟨x2, hx2⟩ : ∃ x, Hid (manyN (xs.drop hf) = x) := ⟨_, rfl⟩
  obtain ⟨x3, hx3⟩ : ∃ x, Hid (manyN xs = x) := ⟨_, rfl⟩
  rw [hx1.out, hx2.out, hx3.out] at hsp
  rw [hx3.out] at hle hz1 hz2
  have HZ1 := Lib.hid hz1
  have HZ2 := Lib.hid hz2
  have hx8 : x3 ≤ 8 := by omega
  clear hz1 hz2 hll hle
  have hsum : (x1 : Int) + (x2 : Int) = (x3 : Int) := by omega
  have hwr : IntKind.i64.wrap ((x1 : Int) + (x2 : Int)) = (x3 : Int) := by rw [hsum]; exact IntWalk.i64_in _ (by omega)
  have hwr2 : IntKind.i64.wrap ((x3 : Int) + 1) = (x3 : Int) + 1 := IntWalk.i64_in _ (by omega)
  have e33 : ((x3 : Int) == (x3 : Int)) = true := by simp
  have e34 : ((x3 : Int) + 1 == (x3 : Int) + 1) = true := by simp
  have HI := Lib.hid hI
  clear hI hsp hsum
  go_wp2_with fail
  refine (giveMany_any _ m d xs w1 (by omega) HI.out).mono ?_; rintro e w2 ⟨rfl, rfl⟩
  rw [hx3.out]
  go_wp2_with fail
  refine (specGiveMany_any _ m d xs w1 (by omega) HI.out).mono ?_; rintro e w2 ⟨rfl, rfl⟩
  rw [hx3.out]
  have hdm : hf ≤ d := by omega
  go_wp2_with fail
  refine wp_region_held_drew (S := fun w' => Below w1.heap.size w1 w') (by kernel_rfl) ?_ (fun hHeld => ?_)
  · (try dsimp only); exact (Below.refl _ _).drew
  have hB0 : Below w1.heap.size w1 w1.drew := (Below.refl _ _).drew
  refine wpAnyH_take (i := 0) (v := ?vz1_0) (by simp only [List.getElem?_toArray, List.getElem?_cons_zero]; rfl) (by kernel_rfl) (by kernel_rfl) (by kernel_rfl) (by exact fun _ _ _ h => h) (Or.inl ⟨by rfl, ?hz1_0⟩) hHeld ?rz1_0
  case hz1_0 => (intro w hSw; (try dsimp only at hSw); go_simp; (try with_reducible rfl))
  try simp only [put_laws]
  refine wpAnyH_take (i := 1) (v := ?vz2_1) (by simp only [List.getElem?_toArray, List.getElem?_cons_succ, List.getElem?_cons_zero]; rfl) (by kernel_rfl) (by kernel_rfl) (by kernel_rfl) (by exact fun _ _ _ h => h) (Or.inl ⟨by rfl, ?hz2_1⟩) hHeld ?rz2_1
  case hz2_1 => (intro w hSw; (try dsimp only at hSw); go_simp; (try with_reducible rfl))
  try simp only [put_laws]
  refine wpAnyH_take (i := 2) (v := ?vz3_2) (by simp only [List.getElem?_toArray, List.getElem?_cons_succ, List.getElem?_cons_zero]; rfl) (by kernel_rfl) (by kernel_rfl) (by kernel_rfl) (by exact fun _ _ _ h => h) (Or.inl ⟨by rfl, ?hz3_2⟩) hHeld ?rz3_2
  case hz3_2 => (intro w hSw; (try dsimp only at hSw); go_simp; (try with_reducible rfl))
  try simp only [put_laws]
  refine wpAnyH_take (i := 4) (v := ?vz4_4) (by simp only [List.getElem?_toArray, List.getElem?_cons_succ, List.getElem?_cons_zero]; rfl) (by kernel_rfl) (by kernel_rfl) (by kernel_rfl) (by exact fun _ _ _ h => h) (Or.inl ⟨by rfl, ?hz4_4⟩) hHeld ?rz4_4
  case hz4_4 => (intro w hSw; (try dsimp only at hSw); go_simp; (try with_reducible rfl))
  try simp only [put_laws]
  refine wpAnyH_take (i := 5) (v := ?vz5_5) (by simp only [List.getElem?_toArray, List.getElem?_cons_succ, List.getElem?_cons_zero]; rfl) (by kernel_rfl) (by kernel_rfl) (by kernel_rfl) (by exact fun _ _ _ h => h) (Or.inl ⟨by rfl, ?hz5_5⟩) hHeld ?rz5_5
  case hz5_5 => (intro w hSw; (try dsimp only at hSw); go_simp; (try with_reducible rfl))
  try simp only [put_laws]
  refine wpAnyH_take (i := 6) (v := ?vz6_6) (by simp only [List.getElem?_toArray, List.getElem?_cons_succ, List.getElem?_cons_zero]; rfl) (by kernel_rfl) (by kernel_rfl) (by kernel_rfl) (by exact fun _ _ _ h => h) (Or.inl ⟨by rfl, ?hz6_6⟩) hHeld ?rz6_6
  case hz6_6 => (intro w hSw; (try dsimp only at hSw); go_simp; (try with_reducible rfl))
  try simp only [put_laws]
  refine wpAnyH_take (i := 9) (v := ?vz7_9) (by simp only [List.getElem?_toArray, List.getElem?_cons_succ, List.getElem?_cons_zero]; rfl) (by kernel_rfl) (by kernel_rfl) (by kernel_rfl) (by exact fun _ _ _ h => h) (Or.inl ⟨by rfl, ?hz7_9⟩) hHeld ?rz7_9
  case hz7_9 => (intro w hSw; (try dsimp only at hSw); go_simp; (try with_reducible rfl))
  try simp only [put_laws]
  refine wpAnyH_ready (rs := [3]) (by kernel_rfl) (by simp) ?_
  refine AllReadyH.cons (by simp only [List.getElem?_toArray, List.getElem?_cons_succ, List.getElem?_cons_zero]; rfl) (fun K hK => ?_) AllReadyH.nil
  go_simp
  refine (giveMany_any _ hf d (xs.take hf) _ (by omega) ((IntsAt.takeM HI.out hfm).below hHeld)).mono ?_; rintro e w2 ⟨rfl, rfl⟩; rw [hx1.out]
  refine hK.out _ _ ?_ (fun hHeld => ?_)
  · (try dsimp only); exact hHeld
  clear hK K
  try simp only [put_laws]
  refine wpAnyH_ready (rs := [7]) (by kernel_rfl) (by simp) ?_
  refine AllReadyH.cons (by simp only [List.getElem?_toArray, List.getElem?_cons_succ, List.getElem?_cons_zero]; rfl) (fun K hK => ?_) AllReadyH.nil
  go_simp
  refine (giveMany_any _ (m - hf) (d - hf) (xs.drop hf) _ (by omega) ((IntsAt.cutM0 HI.out hfm hm1).below hHeld)).mono ?_; rintro e w2 ⟨rfl, rfl⟩; rw [hx2.out]
  refine hK.out _ _ ?_ (fun hHeld => ?_)
  · (try dsimp only); exact hHeld
  clear hK K
  try simp only [put_laws]
  refine wpAnyH_take (i := 8) (v := ?vz8_8) (by simp only [List.getElem?_toArray, List.getElem?_cons_succ, List.getElem?_cons_zero]; rfl) (by kernel_rfl) (by kernel_rfl) (by kernel_rfl) (by exact fun _ _ _ h => h) (Or.inl ⟨by rfl, ?hz8_8⟩) hHeld ?rz8_8
  case hz8_8 => (intro w hSw; (try dsimp only at hSw); go_simp; (try with_reducible rfl))
  try simp only [put_laws]
  refine wpAnyH_take (i := 10) (v := ?vz9_10) (by simp only [List.getElem?_toArray, List.getElem?_cons_succ, List.getElem?_cons_zero]; rfl) (by kernel_rfl) (by kernel_rfl) (by kernel_rfl) (by exact fun _ _ _ h => h) (Or.inl ⟨by rfl, ?hz9_10⟩) hHeld ?rz9_10
  case hz9_10 => (intro w hSw; (try dsimp only at hSw); go_simp; (try with_reducible rfl))
  try simp only [put_laws]
  refine wpAnyH_take (i := 11) (v := ?vz10_11) (by simp only [List.getElem?_toArray, List.getElem?_cons_succ, List.getElem?_cons_zero]; rfl) (by kernel_rfl) (by kernel_rfl) (by kernel_rfl) (by exact fun _ _ _ h => h) (Or.inl ⟨by rfl, ?hz10_11⟩) hHeld ?rz10_11
  case hz10_11 => (intro w hSw; (try dsimp only at hSw); go_simp; (try with_reducible rfl))
  try simp only [put_laws]
  refine wpAnyH_take (i := 13) (v := ?vz11_13) (by simp only [List.getElem?_toArray, List.getElem?_cons_succ, List.getElem?_cons_zero]; rfl) (by kernel_rfl) (by kernel_rfl) (by kernel_rfl) (by exact fun _ _ _ h => h) (Or.inl ⟨by rfl, ?hz11_13⟩) hHeld ?rz11_13
  case hz11_13 => (intro w hSw; (try dsimp only at hSw); go_simp; (try with_reducible rfl))
  try simp only [put_laws]
  refine wpAnyH_take (i := 18) (v := ?vz12_18) (by simp only [List.getElem?_toArray, List.getElem?_cons_succ, List.getElem?_cons_zero]; rfl) (by kernel_rfl) (by kernel_rfl) (by kernel_rfl) (by exact fun _ _ _ h => h) (Or.inl ⟨by rfl, ?hz12_18⟩) hHeld ?rz12_18
  case hz12_18 => (intro w hSw; (try dsimp only at hSw); go_simp; (try with_reducible rfl))
  try simp only [put_laws]
  refine wpAnyH_take (i := 19) (v := ?vz13_19) (by simp only [List.getElem?_toArray, List.getElem?_cons_succ, List.getElem?_cons_zero]; rfl) (by kernel_rfl) (by kernel_rfl) (by kernel_rfl) (by exact fun _ _ _ h => h) (Or.inl ⟨by rfl, ?hz13_19⟩) hHeld ?rz13_19
  case hz13_19 => (intro w hSw; (try dsimp only at hSw); go_simp; (try with_reducible rfl))
  try simp only [put_laws]
  refine wpAnyH_ready (rs := [12, 15]) (by kernel_rfl) (by simp) ?_
  refine AllReadyH.cons (by simp only [List.getElem?_toArray, List.getElem?_cons_succ, List.getElem?_cons_zero]; rfl) (fun K hK => ?_) (AllReadyH.cons (by simp only [List.getElem?_toArray, List.getElem?_cons_succ, List.getElem?_cons_zero]; rfl) (fun K hK => ?_) AllReadyH.nil)
  · skip
    go_simp
    have hEa := own0 (base := w1.heap.size) (w1 := w1.drew) (hB0).size
    have hBEa := (hB0).alloc (hB0).size (.cells #[] 3)
    refine hK.out _ _ ?_ (fun hHeld => ?_)
    · (try dsimp only); exact hBEa
    clear hK K
    try simp only [put_laws]
    refine wpAnyH_ready (rs := [14, 15]) (by kernel_rfl) (by simp) ?_
    refine AllReadyH.cons (by simp only [List.getElem?_toArray, List.getElem?_cons_succ, List.getElem?_cons_zero]; rfl) (fun K hK => ?_) (AllReadyH.cons (by simp only [List.getElem?_toArray, List.getElem?_cons_succ, List.getElem?_cons_zero]; rfl) (fun K hK => ?_) AllReadyH.nil)
    · skip
      rw [if_pos (by rfl)]
      refine wp_copyI (.tmp 32) (.tmp 33) rfl hEa (hBEa).size (HI.out.below (hBEa)) rfl rfl (by omega) ?_; intro v6a w6a hO6a hgr6a
      have hB6a := (hBEa).grown hgr6a (hBEa).size (fun k hk => by injection hk with hk; subst hk; exact (ownV_farI hEa).1)
      refine hK.out _ _ ?_ (fun hHeld => ?_)
      · (try dsimp only); exact hB6a
      clear hK K
      try simp only [put_laws]
      refine wpAnyH_ready (rs := [15]) (by kernel_rfl) (by simp) ?_
      refine AllReadyH.cons (by simp only [List.getElem?_toArray, List.getElem?_cons_succ, List.getElem?_cons_zero]; rfl) (fun K hK => ?_) AllReadyH.nil
      go_simp
      have hXa : Whole (w6a.alloc (.cells #[.int .i64 0] 3)) (w6a).heap.size 3 [.int .i64 0] := Whole.new _ _ _
      have hBXa := (hB6a).alloc (hB6a).size (.cells #[.int .i64 0] 3)
      refine hK.out _ _ ?_ (fun hHeld => ?_)
      · (try dsimp only); exact hBXa
      clear hK K
      try simp only [put_laws]
      have hO7a := own_keep hO6a ((Below.refl w6a.heap.size w6a).alloc (Nat.le_refl _) (.cells #[.int .i64 0] 3))
      refine wpAnyH_ready (rs := [16]) (by kernel_rfl) (by simp) ?_
      refine AllReadyH.cons (by simp only [List.getElem?_toArray, List.getElem?_cons_succ, List.getElem?_cons_zero]; rfl) (fun K hK => ?_) AllReadyH.nil
      rw [if_pos (by rfl)]
      refine wp_pushI (.tmp 34) (.tmp 35) rfl hO7a (hBXa).size hXa rfl rfl (by omega) ?_; intro g9a cap9a w9a hO9a hgr9a
      have hB9a := (hBXa).grown hgr9a (hBXa).size (fun k hk => (hO7a.lt k hk).1)
      refine hK.out _ _ ?_ (fun hHeld => ?_)
      · (try dsimp only); exact hB9a
      clear hK K
      try simp only [put_laws]
      refine wpAnyH_ready (rs := [17]) (by kernel_rfl) (by simp) ?_
      refine AllReadyH.cons (by simp only [List.getElem?_toArray, List.getElem?_cons_succ, List.getElem?_cons_zero]; rfl) (fun K hK => ?_) AllReadyH.nil
      go_simp
      refine (giveMany_any _ (m + 1) cap9a (xs ++ [0]) w9a (by omega) (ints_own hO9a).1).mono ?_; rintro e w10a ⟨rfl, rfl⟩; rw [HZ1.out]
      refine hK.out _ _ ?_ (fun hHeld => ?_)
      · (try dsimp only); exact hB9a
      clear hK K
      try simp only [put_laws]
      refine wpAnyH_take (i := 20) (v := ?vz14_20) (by simp only [List.getElem?_toArray, List.getElem?_cons_succ, List.getElem?_cons_zero]; rfl) (by kernel_rfl) (by kernel_rfl) (by kernel_rfl) (by exact fun _ _ _ h => h) (Or.inl ⟨by rfl, ?hz14_20⟩) hHeld ?rz14_20
      case hz14_20 => (intro w hSw; (try dsimp only at hSw); go_simp; (try with_reducible rfl))
      try simp only [put_laws]
      refine wpAnyH_take (i := 21) (v := ?vz15_21) (by simp only [List.getElem?_toArray, List.getElem?_cons_succ, List.getElem?_cons_zero]; rfl) (by kernel_rfl) (by kernel_rfl) (by kernel_rfl) (by exact fun _ _ _ h => h) (Or.inl ⟨by rfl, ?hz15_21⟩) hHeld ?rz15_21
      case hz15_21 => (intro w hSw; (try dsimp only at hSw); go_simp; (try with_reducible rfl))
      try simp only [put_laws]
      refine wpAnyH_take (i := 22) (v := ?vz16_22) (by simp only [List.getElem?_toArray, List.getElem?_cons_succ, List.getElem?_cons_zero]; rfl) (by kernel_rfl) (by kernel_rfl) (by kernel_rfl) (by exact fun _ _ _ h => h) (Or.inl ⟨by rfl, ?hz16_22⟩) hHeld ?rz16_22
      case hz16_22 => (intro w hSw; (try dsimp only at hSw); go_simp; (try with_reducible rfl))
      try simp only [put_laws]
      refine wpAnyH_take (i := 24) (v := ?vz17_24) (by simp only [List.getElem?_toArray, List.getElem?_cons_succ, List.getElem?_cons_zero]; rfl) (by kernel_rfl) (by kernel_rfl) (by kernel_rfl) (by exact fun _ _ _ h => h) (Or.inl ⟨by rfl, ?hz17_24⟩) hHeld ?rz17_24
      case hz17_24 => (intro w hSw; (try dsimp only at hSw); go_simp; (try with_reducible rfl))
      try simp only [put_laws]
      refine wpAnyH_take (i := 29) (v := ?vz18_29) (by simp only [List.getElem?_toArray, List.getElem?_cons_succ, List.getElem?_cons_zero]; rfl) (by kernel_rfl) (by kernel_rfl) (by kernel_rfl) (by exact fun _ _ _ h => h) (Or.inl ⟨by rfl, ?hz18_29⟩) hHeld ?rz18_29
      case hz18_29 => (intro w hSw; (try dsimp only at hSw); go_simp; (try with_reducible rfl))
      try simp only [put_laws]
      refine wpAnyH_ready (rs := [23, 26]) (by kernel_rfl) (by simp) ?_
      refine AllReadyH.cons (by simp only [List.getElem?_toArray, List.getElem?_cons_succ, List.getElem?_cons_zero]; rfl) (fun K hK => ?_) (AllReadyH.cons (by simp only [List.getElem?_toArray, List.getElem?_cons_succ, List.getElem?_cons_zero]; rfl) (fun K hK => ?_) AllReadyH.nil)
      · skip
        go_simp
        have hEb := own0 (base := w1.heap.size) (w1 := w9a) (hB9a).size
        have hBEb := (hB9a).alloc (hB9a).size (.cells #[] 3)
        refine hK.out _ _ ?_ (fun hHeld => ?_)
        · (try dsimp only); exact hBEb
        clear hK K
        try simp only [put_laws]
        refine wpAnyH_ready (rs := [25, 26]) (by kernel_rfl) (by simp) ?_
        refine AllReadyH.cons (by simp only [List.getElem?_toArray, List.getElem?_cons_succ, List.getElem?_cons_zero]; rfl) (fun K hK => ?_) (AllReadyH.cons (by simp only [List.getElem?_toArray, List.getElem?_cons_succ, List.getElem?_cons_zero]; rfl) (fun K hK => ?_) AllReadyH.nil)
        · skip
          rw [if_pos (by rfl)]
          refine wp_copyI (.tmp 43) (.tmp 44) rfl hEb (hBEb).size (HI.out.below (hBEb)) rfl rfl (by omega) ?_; intro v6b w6b hO6b hgr6b
          have hB6b := (hBEb).grown hgr6b (hBEb).size (fun k hk => by injection hk with hk; subst hk; exact (ownV_farI hEb).1)
          refine hK.out _ _ ?_ (fun hHeld => ?_)
          · (try dsimp only); exact hB6b
          clear hK K
          try simp only [put_laws]
          refine wpAnyH_ready (rs := [26]) (by kernel_rfl) (by simp) ?_
          refine AllReadyH.cons (by simp only [List.getElem?_toArray, List.getElem?_cons_succ, List.getElem?_cons_zero]; rfl) (fun K hK => ?_) AllReadyH.nil
          go_simp
          have hXb : Whole (w6b.alloc (.cells #[.int .i64 (-1)] 3)) (w6b).heap.size 3 [.int .i64 (-1)] := Whole.new _ _ _
          have hBXb := (hB6b).alloc (hB6b).size (.cells #[.int .i64 (-1)] 3)
          refine hK.out _ _ ?_ (fun hHeld => ?_)
          · (try dsimp only); exact hBXb
          clear hK K
          try simp only [put_laws]
          have hO7b := own_keep hO6b ((Below.refl w6b.heap.size w6b).alloc (Nat.le_refl _) (.cells #[.int .i64 (-1)] 3))
          refine wpAnyH_ready (rs := [27]) (by kernel_rfl) (by simp) ?_
          refine AllReadyH.cons (by simp only [List.getElem?_toArray, List.getElem?_cons_succ, List.getElem?_cons_zero]; rfl) (fun K hK => ?_) AllReadyH.nil
          rw [if_pos (by rfl)]
          refine wp_pushI (.tmp 45) (.tmp 46) rfl hO7b (hBXb).size hXb rfl rfl (by omega) ?_; intro g9b cap9b w9b hO9b hgr9b
          have hB9b := (hBXb).grown hgr9b (hBXb).size (fun k hk => (hO7b.lt k hk).1)
          refine hK.out _ _ ?_ (fun hHeld => ?_)
          · (try dsimp only); exact hB9b
          clear hK K
          try simp only [put_laws]
          refine wpAnyH_ready (rs := [28]) (by kernel_rfl) (by simp) ?_
          refine AllReadyH.cons (by simp only [List.getElem?_toArray, List.getElem?_cons_succ, List.getElem?_cons_zero]; rfl) (fun K hK => ?_) AllReadyH.nil
          go_simp
          refine (giveMany_any _ (m + 1) cap9b (xs ++ [(-1)]) w9b (by omega) (ints_own hO9b).1).mono ?_; rintro e w10b ⟨rfl, rfl⟩; rw [HZ2.out]
          refine hK.out _ _ ?_ (fun hHeld => ?_)
          · (try dsimp only); exact hB9b
          clear hK K
          try simp only [put_laws]
          refine wpAnyH_take (i := 30) (v := ?vz19_30) (by simp only [List.getElem?_toArray, List.getElem?_cons_succ, List.getElem?_cons_zero]; rfl) (by kernel_rfl) (by kernel_rfl) (by kernel_rfl) (by exact fun _ _ _ h => h) (Or.inl ⟨by rfl, ?hz19_30⟩) hHeld ?rz19_30
          case hz19_30 => (intro w hSw; (try dsimp only at hSw); go_simp; (try with_reducible rfl))
          try simp only [put_laws]
          refine wpAnyH_take (i := 31) (v := ?vz20_31) (by simp only [List.getElem?_toArray, List.getElem?_cons_succ, List.getElem?_cons_zero]; rfl) (by kernel_rfl) (by kernel_rfl) (by kernel_rfl) (by exact fun _ _ _ h => h) (Or.inl ⟨by rfl, ?hz20_31⟩) hHeld ?rz20_31
          case hz20_31 => (intro w hSw; (try dsimp only at hSw); go_simp; (try with_reducible rfl))
          try simp only [put_laws]
          refine wpAnyH_take (i := 32) (v := ?vz21_32) (by simp only [List.getElem?_toArray, List.getElem?_cons_succ, List.getElem?_cons_zero]; rfl) (by kernel_rfl) (by kernel_rfl) (by kernel_rfl) (by exact fun _ _ _ h => h) (Or.inl ⟨by rfl, ?hz21_32⟩) hHeld ?rz21_32
          case hz21_32 => (intro w hSw; (try dsimp only at hSw); go_simp; (try with_reducible rfl))
          try simp only [put_laws]
          refine wpAnyH_ready (rs := [33]) (by kernel_rfl) (by simp) ?_
          refine AllReadyH.cons (by simp only [List.getElem?_toArray, List.getElem?_cons_succ, List.getElem?_cons_zero]; rfl) (fun K hK => ?_) AllReadyH.nil
          go_simp
          refine (alive_any _).mono ?_; rintro e wz ⟨rfl, hbz⟩
          have hBz := hB9b.trans (hbz.mono hB9b.size)
          refine hK.out _ _ ?_ (fun hHeld => ?_)
          · (try dsimp only); exact hBz
          clear hK K
          try simp only [put_laws]
          refine wpAnyH_take (i := 34) (v := ?vz22_34) (by simp only [List.getElem?_toArray, List.getElem?_cons_succ, List.getElem?_cons_zero]; rfl) (by kernel_rfl) (by kernel_rfl) (by kernel_rfl) (by exact fun _ _ _ h => h) (Or.inl ⟨by rfl, ?hz22_34⟩) hHeld ?rz22_34
          case hz22_34 => (intro w hSw; (try dsimp only at hSw); go_simp; (try with_reducible rfl))
          try simp only [put_laws]
          refine wpAnyH_take (i := 35) (v := ?vz23_35) (by simp only [List.getElem?_toArray, List.getElem?_cons_succ, List.getElem?_cons_zero]; rfl) (by kernel_rfl) (by kernel_rfl) (by kernel_rfl) (by exact fun _ _ _ h => h) (Or.inl ⟨by rfl, ?hz23_35⟩) hHeld ?rz23_35
          case hz23_35 => (intro w hSw; (try dsimp only at hSw); go_simp; (try with_reducible rfl))
          try simp only [put_laws]
          refine wpAnyH_done (by kernel_rfl) ?_ _
          go_wp2
          all_goals
            go_ret
            exact ⟨rfl, below_next hb1 hBz⟩
        · skip
          go_simp
          have hXb : Whole ((w9a.alloc (.cells #[] 3)).alloc (.cells #[.int .i64 (-1)] 3)) ((w9a.alloc (.cells #[] 3))).heap.size 3 [.int .i64 (-1)] := Whole.new _ _ _
          rw [show ((w9a.alloc (.cells #[] 3))).heap.size = w9a.heap.size + 1 by simp] at hXb
          have hBXb := (hBEb).alloc (hBEb).size (.cells #[.int .i64 (-1)] 3)
          refine hK.out _ _ ?_ (fun hHeld => ?_)
          · (try dsimp only); exact hBXb
          clear hK K
          try simp only [put_laws]
          have hE2b := own_keep hEb ((Below.refl _ _).alloc (Nat.le_refl _) (.cells #[.int .i64 (-1)] 3))
          refine wpAnyH_ready (rs := [25]) (by kernel_rfl) (by simp) ?_
          refine AllReadyH.cons (by simp only [List.getElem?_toArray, List.getElem?_cons_succ, List.getElem?_cons_zero]; rfl) (fun K hK => ?_) AllReadyH.nil
          rw [if_pos (by rfl)]
          refine wp_copyI (.tmp 43) (.tmp 44) rfl hE2b (hBXb).size (HI.out.below (hBXb)) rfl rfl (by omega) ?_; intro v6b w6b hO6b hgr6b
          have hB6b := (hBXb).grown hgr6b (hBXb).size (fun k hk => by injection hk with hk; subst hk; exact (ownV_farI hE2b).1)
          have hX6b := Whole.grow hXb hgr6b (by simp)
          refine hK.out _ _ ?_ (fun hHeld => ?_)
          · (try dsimp only); exact hB6b
          clear hK K
          try simp only [put_laws]
          refine wpAnyH_ready (rs := [27]) (by kernel_rfl) (by simp) ?_
          refine AllReadyH.cons (by simp only [List.getElem?_toArray, List.getElem?_cons_succ, List.getElem?_cons_zero]; rfl) (fun K hK => ?_) AllReadyH.nil
          rw [if_pos (by rfl)]
          refine wp_pushI (.tmp 45) (.tmp 46) rfl hO6b (hB6b).size hX6b rfl rfl (by omega) ?_; intro g9b cap9b w9b hO9b hgr9b
          have hB9b := (hB6b).grown hgr9b (hB6b).size (fun k hk => (hO6b.lt k hk).1)
          refine hK.out _ _ ?_ (fun hHeld => ?_)
          · (try dsimp only); exact hB9b
          clear hK K
          try simp only [put_laws]
          refine wpAnyH_ready (rs := [28]) (by kernel_rfl) (by simp) ?_
          refine AllReadyH.cons (by simp only [List.getElem?_toArray, List.getElem?_cons_succ, List.getElem?_cons_zero]; rfl) (fun K hK => ?_) AllReadyH.nil
          go_simp
          refine (giveMany_any _ (m + 1) cap9b (xs ++ [(-1)]) w9b (by omega) (ints_own hO9b).1).mono ?_; rintro e w10b ⟨rfl, rfl⟩; rw [HZ2.out]
          refine hK.out _ _ ?_ (fun hHeld => ?_)
          · (try dsimp only); exact hB9b
          clear hK K
          try simp only [put_laws]
          refine wpAnyH_take (i := 30) (v := ?vz24_30) (by simp only [List.getElem?_toArray, List.getElem?_cons_succ, List.getElem?_cons_zero]; rfl) (by kernel_rfl) (by kernel_rfl) (by kernel_rfl) (by exact fun _ _ _ h => h) (Or.inl ⟨by rfl, ?hz24_30⟩) hHeld ?rz24_30
          case hz24_30 => (intro w hSw; (try dsimp only at hSw); go_simp; (try with_reducible rfl))
          try simp only [put_laws]
          refine wpAnyH_take (i := 31) (v := ?vz25_31) (by simp only [List.getElem?_toArray, List.getElem?_cons_succ, List.getElem?_cons_zero]; rfl) (by kernel_rfl) (by kernel_rfl) (by kernel_rfl) (by exact fun _ _ _ h => h) (Or.inl ⟨by rfl, ?hz25_31⟩) hHeld ?rz25_31
          case hz25_31 => (intro w hSw; (try dsimp only at hSw); go_simp; (try with_reducible rfl))
          try simp only [put_laws]
          refine wpAnyH_take (i := 32) (v := ?vz26_32) (by simp only [List.getElem?_toArray, List.getElem?_cons_succ, List.getElem?_cons_zero]; rfl) (by kernel_rfl) (by kernel_rfl) (by kernel_rfl) (by exact fun _ _ _ h => h) (Or.inl ⟨by rfl, ?hz26_32⟩) hHeld ?rz26_32
          case hz26_32 => (intro w hSw; (try dsimp only at hSw); go_simp; (try with_reducible rfl))
          try simp only [put_laws]
          refine wpAnyH_ready (rs := [33]) (by kernel_rfl) (by simp) ?_
          refine AllReadyH.cons (by simp only [List.getElem?_toArray, List.getElem?_cons_succ, List.getElem?_cons_zero]; rfl) (fun K hK => ?_) AllReadyH.nil
          go_simp
          refine (alive_any _).mono ?_; rintro e wz ⟨rfl, hbz⟩
          have hBz := hB9b.trans (hbz.mono hB9b.size)
          refine hK.out _ _ ?_ (fun hHeld => ?_)
          · (try dsimp only); exact hBz
          clear hK K
          try simp only [put_laws]
          refine wpAnyH_take (i := 34) (v := ?vz27_34) (by simp only [List.getElem?_toArray, List.getElem?_cons_succ, List.getElem?_cons_zero]; rfl) (by kernel_rfl) (by kernel_rfl) (by kernel_rfl) (by exact fun _ _ _ h => h) (Or.inl ⟨by rfl, ?hz27_34⟩) hHeld ?rz27_34
          case hz27_34 => (intro w hSw; (try dsimp only at hSw); go_simp; (try with_reducible rfl))
          try simp only [put_laws]
          refine wpAnyH_take (i := 35) (v := ?vz28_35) (by simp only [List.getElem?_toArray, List.getElem?_cons_succ, List.getElem?_cons_zero]; rfl) (by kernel_rfl) (by kernel_rfl) (by kernel_rfl) (by exact fun _ _ _ h => h) (Or.inl ⟨by rfl, ?hz28_35⟩) hHeld ?rz28_35
          case hz28_35 => (intro w hSw; (try dsimp only at hSw); go_simp; (try with_reducible rfl))
          try simp only [put_laws]
          refine wpAnyH_done (by kernel_rfl) ?_ _
          go_wp2
          all_goals
            go_ret
            exact ⟨rfl, below_next hb1 hBz⟩
      · skip
        go_simp
        have hXb : Whole (w9a.alloc (.cells #[.int .i64 (-1)] 3)) (w9a).heap.size 3 [.int .i64 (-1)] := Whole.new _ _ _
        have hBXb := (hB9a).alloc (hB9a).size (.cells #[.int .i64 (-1)] 3)
        refine hK.out _ _ ?_ (fun hHeld => ?_)
        · (try dsimp only); exact hBXb
        clear hK K
        try simp only [put_laws]
        refine wpAnyH_ready (rs := [23]) (by kernel_rfl) (by simp) ?_
        refine AllReadyH.cons (by simp only [List.getElem?_toArray, List.getElem?_cons_succ, List.getElem?_cons_zero]; rfl) (fun K hK => ?_) AllReadyH.nil
        go_simp
        have hEb := own0 (base := w1.heap.size) (w1 := (w9a.alloc (.cells #[.int .i64 (-1)] 3))) (hBXb).size
        rw [show ((w9a.alloc (.cells #[.int .i64 (-1)] 3))).heap.size = w9a.heap.size + 1 by simp] at hEb
        have hBEb := (hBXb).alloc (hBXb).size (.cells #[] 3)
        have hX5b := hXb.alloc (.cells #[] 3)
        refine hK.out _ _ ?_ (fun hHeld => ?_)
        · (try dsimp only); exact hBEb
        clear hK K
        try simp only [put_laws]
        refine wpAnyH_ready (rs := [25]) (by kernel_rfl) (by simp) ?_
        refine AllReadyH.cons (by simp only [List.getElem?_toArray, List.getElem?_cons_succ, List.getElem?_cons_zero]; rfl) (fun K hK => ?_) AllReadyH.nil
        rw [if_pos (by rfl)]
        refine wp_copyI (.tmp 43) (.tmp 44) rfl hEb (hBEb).size (HI.out.below (hBEb)) rfl rfl (by omega) ?_; intro v6b w6b hO6b hgr6b
        have hB6b := (hBEb).grown hgr6b (hBEb).size (fun k hk => by injection hk with hk; subst hk; exact (ownV_farI hEb).1)
        have hX6b := Whole.grow hX5b hgr6b (by simp)
        refine hK.out _ _ ?_ (fun hHeld => ?_)
        · (try dsimp only); exact hB6b
        clear hK K
        try simp only [put_laws]
        refine wpAnyH_ready (rs := [27]) (by kernel_rfl) (by simp) ?_
        refine AllReadyH.cons (by simp only [List.getElem?_toArray, List.getElem?_cons_succ, List.getElem?_cons_zero]; rfl) (fun K hK => ?_) AllReadyH.nil
        rw [if_pos (by rfl)]
        refine wp_pushI (.tmp 45) (.tmp 46) rfl hO6b (hB6b).size hX6b rfl rfl (by omega) ?_; intro g9b cap9b w9b hO9b hgr9b
        have hB9b := (hB6b).grown hgr9b (hB6b).size (fun k hk => (hO6b.lt k hk).1)
        refine hK.out _ _ ?_ (fun hHeld => ?_)
        · (try dsimp only); exact hB9b
        clear hK K
        try simp only [put_laws]
        refine wpAnyH_ready (rs := [28]) (by kernel_rfl) (by simp) ?_
        refine AllReadyH.cons (by simp only [List.getElem?_toArray, List.getElem?_cons_succ, List.getElem?_cons_zero]; rfl) (fun K hK => ?_) AllReadyH.nil
        go_simp
        refine (giveMany_any _ (m + 1) cap9b (xs ++ [(-1)]) w9b (by omega) (ints_own hO9b).1).mono ?_; rintro e w10b ⟨rfl, rfl⟩; rw [HZ2.out]
        refine hK.out _ _ ?_ (fun hHeld => ?_)
        · (try dsimp only); exact hB9b
        clear hK K
        try simp only [put_laws]
        refine wpAnyH_take (i := 30) (v := ?vz29_30) (by simp only [List.getElem?_toArray, List.getElem?_cons_succ, List.getElem?_cons_zero]; rfl) (by kernel_rfl) (by kernel_rfl) (by kernel_rfl) (by exact fun _ _ _ h => h) (Or.inl ⟨by rfl, ?hz29_30⟩) hHeld ?rz29_30
        case hz29_30 => (intro w hSw; (try dsimp only at hSw); go_simp; (try with_reducible rfl))
        try simp only [put_laws]
        refine wpAnyH_take (i := 31) (v := ?vz30_31) (by simp only [List.getElem?_toArray, List.getElem?_cons_succ, List.getElem?_cons_zero]; rfl) (by kernel_rfl) (by kernel_rfl) (by kernel_rfl) (by exact fun _ _ _ h => h) (Or.inl ⟨by rfl, ?hz30_31⟩) hHeld ?rz30_31
        case hz30_31 => (intro w hSw; (try dsimp only at hSw); go_simp; (try with_reducible rfl))
        try simp only [put_laws]
        refine wpAnyH_take (i := 32) (v := ?vz31_32) (by simp only [List.getElem?_toArray, List.getElem?_cons_succ, List.getElem?_cons_zero]; rfl) (by kernel_rfl) (by kernel_rfl) (by kernel_rfl) (by exact fun _ _ _ h => h) (Or.inl ⟨by rfl, ?hz31_32⟩) hHeld ?rz31_32
        case hz31_32 => (intro w hSw; (try dsimp only at hSw); go_simp; (try with_reducible rfl))
        try simp only [put_laws]
        refine wpAnyH_ready (rs := [33]) (by kernel_rfl) (by simp) ?_
        refine AllReadyH.cons (by simp only [List.getElem?_toArray, List.getElem?_cons_succ, List.getElem?_cons_zero]; rfl) (fun K hK => ?_) AllReadyH.nil
        go_simp
        refine (alive_any _).mono ?_; rintro e wz ⟨rfl, hbz⟩
        have hBz := hB9b.trans (hbz.mono hB9b.size)
        refine hK.out _ _ ?_ (fun hHeld => ?_)
        · (try dsimp only); exact hBz
        clear hK K
        try simp only [put_laws]
        refine wpAnyH_take (i := 34) (v := ?vz32_34) (by simp only [List.getElem?_toArray, List.getElem?_cons_succ, List.getElem?_cons_zero]; rfl) (by kernel_rfl) (by kernel_rfl) (by kernel_rfl) (by exact fun _ _ _ h => h) (Or.inl ⟨by rfl, ?hz32_34⟩) hHeld ?rz32_34
        case hz32_34 => (intro w hSw; (try dsimp only at hSw); go_simp; (try with_reducible rfl))
        try simp only [put_laws]
        refine wpAnyH_take (i := 35) (v := ?vz33_35) (by simp only [List.getElem?_toArray, List.getElem?_cons_succ, List.getElem?_cons_zero]; rfl) (by kernel_rfl) (by kernel_rfl) (by kernel_rfl) (by exact fun _ _ _ h => h) (Or.inl ⟨by rfl, ?hz33_35⟩) hHeld ?rz33_35
        case hz33_35 => (intro w hSw; (try dsimp only at hSw); go_simp; (try with_reducible rfl))
        try simp only [put_laws]
        refine wpAnyH_done (by kernel_rfl) ?_ _
        go_wp2
        all_goals
          go_ret
          exact ⟨rfl, below_next hb1 hBz⟩
    · skip
      go_simp
      have hXa : Whole ((w1.drew.alloc (.cells #[] 3)).alloc (.cells #[.int .i64 0] 3)) ((w1.drew.alloc (.cells #[] 3))).heap.size 3 [.int .i64 0] := Whole.new _ _ _
      rw [show ((w1.drew.alloc (.cells #[] 3))).heap.size = w1.heap.size + 1 by simp] at hXa
      have hBXa := (hBEa).alloc (hBEa).size (.cells #[.int .i64 0] 3)
      refine hK.out _ _ ?_ (fun hHeld => ?_)
      · (try dsimp only); exact hBXa
      clear hK K
      try simp only [put_laws]
      have hE2a := own_keep hEa ((Below.refl _ _).alloc (Nat.le_refl _) (.cells #[.int .i64 0] 3))
      refine wpAnyH_ready (rs := [14]) (by kernel_rfl) (by simp) ?_
      refine AllReadyH.cons (by simp only [List.getElem?_toArray, List.getElem?_cons_succ, List.getElem?_cons_zero]; rfl) (fun K hK => ?_) AllReadyH.nil
      rw [if_pos (by rfl)]
      refine wp_copyI (.tmp 32) (.tmp 33) rfl hE2a (hBXa).size (HI.out.below (hBXa)) rfl rfl (by omega) ?_; intro v6a w6a hO6a hgr6a
      have hB6a := (hBXa).grown hgr6a (hBXa).size (fun k hk => by injection hk with hk; subst hk; exact (ownV_farI hE2a).1)
      have hX6a := Whole.grow hXa hgr6a (by simp)
      refine hK.out _ _ ?_ (fun hHeld => ?_)
      · (try dsimp only); exact hB6a
      clear hK K
      try simp only [put_laws]
      refine wpAnyH_ready (rs := [16]) (by kernel_rfl) (by simp) ?_
      refine AllReadyH.cons (by simp only [List.getElem?_toArray, List.getElem?_cons_succ, List.getElem?_cons_zero]; rfl) (fun K hK => ?_) AllReadyH.nil
      rw [if_pos (by rfl)]
      refine wp_pushI (.tmp 34) (.tmp 35) rfl hO6a (hB6a).size hX6a rfl rfl (by omega) ?_; intro g9a cap9a w9a hO9a hgr9a
      have hB9a := (hB6a).grown hgr9a (hB6a).size (fun k hk => (hO6a.lt k hk).1)
      refine hK.out _ _ ?_ (fun hHeld => ?_)
      · (try dsimp only); exact hB9a
      clear hK K
      try simp only [put_laws]
      refine wpAnyH_ready (rs := [17]) (by kernel_rfl) (by simp) ?_
      refine AllReadyH.cons (by simp only [List.getElem?_toArray, List.getElem?_cons_succ, List.getElem?_cons_zero]; rfl) (fun K hK => ?_) AllReadyH.nil
      go_simp
      refine (giveMany_any _ (m + 1) cap9a (xs ++ [0]) w9a (by omega) (ints_own hO9a).1).mono ?_; rintro e w10a ⟨rfl, rfl⟩; rw [HZ1.out]
      refine hK.out _ _ ?_ (fun hHeld => ?_)
      · (try dsimp only); exact hB9a
      clear hK K
      try simp only [put_laws]
      refine wpAnyH_take (i := 20) (v := ?vz34_20) (by simp only [List.getElem?_toArray, List.getElem?_cons_succ, List.getElem?_cons_zero]; rfl) (by kernel_rfl) (by kernel_rfl) (by kernel_rfl) (by exact fun _ _ _ h => h) (Or.inl ⟨by rfl, ?hz34_20⟩) hHeld ?rz34_20
      case hz34_20 => (intro w hSw; (try dsimp only at hSw); go_simp; (try with_reducible rfl))
      try simp only [put_laws]
      refine wpAnyH_take (i := 21) (v := ?vz35_21) (by simp only [List.getElem?_toArray, List.getElem?_cons_succ, List.getElem?_cons_zero]; rfl) (by kernel_rfl) (by kernel_rfl) (by kernel_rfl) (by exact fun _ _ _ h => h) (Or.inl ⟨by rfl, ?hz35_21⟩) hHeld ?rz35_21
      case hz35_21 => (intro w hSw; (try dsimp only at hSw); go_simp; (try with_reducible rfl))
      try simp only [put_laws]
      refine wpAnyH_take (i := 22) (v := ?vz36_22) (by simp only [List.getElem?_toArray, List.getElem?_cons_succ, List.getElem?_cons_zero]; rfl) (by kernel_rfl) (by kernel_rfl) (by kernel_rfl) (by exact fun _ _ _ h => h) (Or.inl ⟨by rfl, ?hz36_22⟩) hHeld ?rz36_22
      case hz36_22 => (intro w hSw; (try dsimp only at hSw); go_simp; (try with_reducible rfl))
      try simp only [put_laws]
      refine wpAnyH_take (i := 24) (v := ?vz37_24) (by simp only [List.getElem?_toArray, List.getElem?_cons_succ, List.getElem?_cons_zero]; rfl) (by kernel_rfl) (by kernel_rfl) (by kernel_rfl) (by exact fun _ _ _ h => h) (Or.inl ⟨by rfl, ?hz37_24⟩) hHeld ?rz37_24
      case hz37_24 => (intro w hSw; (try dsimp only at hSw); go_simp; (try with_reducible rfl))
      try simp only [put_laws]
      refine wpAnyH_take (i := 29) (v := ?vz38_29) (by simp only [List.getElem?_toArray, List.getElem?_cons_succ, List.getElem?_cons_zero]; rfl) (by kernel_rfl) (by kernel_rfl) (by kernel_rfl) (by exact fun _ _ _ h => h) (Or.inl ⟨by rfl, ?hz38_29⟩) hHeld ?rz38_29
      case hz38_29 => (intro w hSw; (try dsimp only at hSw); go_simp; (try with_reducible rfl))
      try simp only [put_laws]
      refine wpAnyH_ready (rs := [23, 26]) (by kernel_rfl) (by simp) ?_
      refine AllReadyH.cons (by simp only [List.getElem?_toArray, List.getElem?_cons_succ, List.getElem?_cons_zero]; rfl) (fun K hK => ?_) (AllReadyH.cons (by simp only [List.getElem?_toArray, List.getElem?_cons_succ, List.getElem?_cons_zero]; rfl) (fun K hK => ?_) AllReadyH.nil)
      · skip
        go_simp
        have hEb := own0 (base := w1.heap.size) (w1 := w9a) (hB9a).size
        have hBEb := (hB9a).alloc (hB9a).size (.cells #[] 3)
        refine hK.out _ _ ?_ (fun hHeld => ?_)
        · (try dsimp only); exact hBEb
        clear hK K
        try simp only [put_laws]
        refine wpAnyH_ready (rs := [25, 26]) (by kernel_rfl) (by simp) ?_
        refine AllReadyH.cons (by simp only [List.getElem?_toArray, List.getElem?_cons_succ, List.getElem?_cons_zero]; rfl) (fun K hK => ?_) (AllReadyH.cons (by simp only [List.getElem?_toArray, List.getElem?_cons_succ, List.getElem?_cons_zero]; rfl) (fun K hK => ?_) AllReadyH.nil)
        · skip
          rw [if_pos (by rfl)]
          refine wp_copyI (.tmp 43) (.tmp 44) rfl hEb (hBEb).size (HI.out.below (hBEb)) rfl rfl (by omega) ?_; intro v6b w6b hO6b hgr6b
          have hB6b := (hBEb).grown hgr6b (hBEb).size (fun k hk => by injection hk with hk; subst hk; exact (ownV_farI hEb).1)
          refine hK.out _ _ ?_ (fun hHeld => ?_)
          · (try dsimp only); exact hB6b
          clear hK K
          try simp only [put_laws]
          refine wpAnyH_ready (rs := [26]) (by kernel_rfl) (by simp) ?_
          refine AllReadyH.cons (by simp only [List.getElem?_toArray, List.getElem?_cons_succ, List.getElem?_cons_zero]; rfl) (fun K hK => ?_) AllReadyH.nil
          go_simp
          have hXb : Whole (w6b.alloc (.cells #[.int .i64 (-1)] 3)) (w6b).heap.size 3 [.int .i64 (-1)] := Whole.new _ _ _
          have hBXb := (hB6b).alloc (hB6b).size (.cells #[.int .i64 (-1)] 3)
          refine hK.out _ _ ?_ (fun hHeld => ?_)
          · (try dsimp only); exact hBXb
          clear hK K
          try simp only [put_laws]
          have hO7b := own_keep hO6b ((Below.refl w6b.heap.size w6b).alloc (Nat.le_refl _) (.cells #[.int .i64 (-1)] 3))
          refine wpAnyH_ready (rs := [27]) (by kernel_rfl) (by simp) ?_
          refine AllReadyH.cons (by simp only [List.getElem?_toArray, List.getElem?_cons_succ, List.getElem?_cons_zero]; rfl) (fun K hK => ?_) AllReadyH.nil
          rw [if_pos (by rfl)]
          refine wp_pushI (.tmp 45) (.tmp 46) rfl hO7b (hBXb).size hXb rfl rfl (by omega) ?_; intro g9b cap9b w9b hO9b hgr9b
          have hB9b := (hBXb).grown hgr9b (hBXb).size (fun k hk => (hO7b.lt k hk).1)
          refine hK.out _ _ ?_ (fun hHeld => ?_)
          · (try dsimp only); exact hB9b
          clear hK K
          try simp only [put_laws]
          refine wpAnyH_ready (rs := [28]) (by kernel_rfl) (by simp) ?_
          refine AllReadyH.cons (by simp only [List.getElem?_toArray, List.getElem?_cons_succ, List.getElem?_cons_zero]; rfl) (fun K hK => ?_) AllReadyH.nil
          go_simp
          refine (giveMany_any _ (m + 1) cap9b (xs ++ [(-1)]) w9b (by omega) (ints_own hO9b).1).mono ?_; rintro e w10b ⟨rfl, rfl⟩; rw [HZ2.out]
          refine hK.out _ _ ?_ (fun hHeld => ?_)
          · (try dsimp only); exact hB9b
          clear hK K
          try simp only [put_laws]
          refine wpAnyH_take (i := 30) (v := ?vz39_30) (by simp only [List.getElem?_toArray, List.getElem?_cons_succ, List.getElem?_cons_zero]; rfl) (by kernel_rfl) (by kernel_rfl) (by kernel_rfl) (by exact fun _ _ _ h => h) (Or.inl ⟨by rfl, ?hz39_30⟩) hHeld ?rz39_30
          case hz39_30 => (intro w hSw; (try dsimp only at hSw); go_simp; (try with_reducible rfl))
          try simp only [put_laws]
          refine wpAnyH_take (i := 31) (v := ?vz40_31) (by simp only [List.getElem?_toArray, List.getElem?_cons_succ, List.getElem?_cons_zero]; rfl) (by kernel_rfl) (by kernel_rfl) (by kernel_rfl) (by exact fun _ _ _ h => h) (Or.inl ⟨by rfl, ?hz40_31⟩) hHeld ?rz40_31
          case hz40_31 => (intro w hSw; (try dsimp only at hSw); go_simp; (try with_reducible rfl))
          try simp only [put_laws]
          refine wpAnyH_take (i := 32) (v := ?vz41_32) (by simp only [List.getElem?_toArray, List.getElem?_cons_succ, List.getElem?_cons_zero]; rfl) (by kernel_rfl) (by kernel_rfl) (by kernel_rfl) (by exact fun _ _ _ h => h) (Or.inl ⟨by rfl, ?hz41_32⟩) hHeld ?rz41_32
          case hz41_32 => (intro w hSw; (try dsimp only at hSw); go_simp; (try with_reducible rfl))
          try simp only [put_laws]
          refine wpAnyH_ready (rs := [33]) (by kernel_rfl) (by simp) ?_
          refine AllReadyH.cons (by simp only [List.getElem?_toArray, List.getElem?_cons_succ, List.getElem?_cons_zero]; rfl) (fun K hK => ?_) AllReadyH.nil
          go_simp
          refine (alive_any _).mono ?_; rintro e wz ⟨rfl, hbz⟩
          have hBz := hB9b.trans (hbz.mono hB9b.size)
          refine hK.out _ _ ?_ (fun hHeld => ?_)
          · (try dsimp only); exact hBz
          clear hK K
          try simp only [put_laws]
          refine wpAnyH_take (i := 34) (v := ?vz42_34) (by simp only [List.getElem?_toArray, List.getElem?_cons_succ, List.getElem?_cons_zero]; rfl) (by kernel_rfl) (by kernel_rfl) (by kernel_rfl) (by exact fun _ _ _ h => h) (Or.inl ⟨by rfl, ?hz42_34⟩) hHeld ?rz42_34
          case hz42_34 => (intro w hSw; (try dsimp only at hSw); go_simp; (try with_reducible rfl))
          try simp only [put_laws]
          refine wpAnyH_take (i := 35) (v := ?vz43_35) (by simp only [List.getElem?_toArray, List.getElem?_cons_succ, List.getElem?_cons_zero]; rfl) (by kernel_rfl) (by kernel_rfl) (by kernel_rfl) (by exact fun _ _ _ h => h) (Or.inl ⟨by rfl, ?hz43_35⟩) hHeld ?rz43_35
          case hz43_35 => (intro w hSw; (try dsimp only at hSw); go_simp; (try with_reducible rfl))
          try simp only [put_laws]
          refine wpAnyH_done (by kernel_rfl) ?_ _
          go_wp2
          all_goals
            go_ret
            exact ⟨rfl, below_next hb1 hBz⟩
        · skip
          go_simp
          have hXb : Whole ((w9a.alloc (.cells #[] 3)).alloc (.cells #[.int .i64 (-1)] 3)) ((w9a.alloc (.cells #[] 3))).heap.size 3 [.int .i64 (-1)] := Whole.new _ _ _
          rw [show ((w9a.alloc (.cells #[] 3))).heap.size = w9a.heap.size + 1 by simp] at hXb
          have hBXb := (hBEb).alloc (hBEb).size (.cells #[.int .i64 (-1)] 3)
          refine hK.out _ _ ?_ (fun hHeld => ?_)
          · (try dsimp only); exact hBXb
          clear hK K
          try simp only [put_laws]
          have hE2b := own_keep hEb ((Below.refl _ _).alloc (Nat.le_refl _) (.cells #[.int .i64 (-1)] 3))
          refine wpAnyH_ready (rs := [25]) (by kernel_rfl) (by simp) ?_
          refine AllReadyH.cons (by simp only [List.getElem?_toArray, List.getElem?_cons_succ, List.getElem?_cons_zero]; rfl) (fun K hK => ?_) AllReadyH.nil
          rw [if_pos (by rfl)]
          refine wp_copyI (.tmp 43) (.tmp 44) rfl hE2b (hBXb).size (HI.out.below (hBXb)) rfl rfl (by omega) ?_; intro v6b w6b hO6b hgr6b
          have hB6b := (hBXb).grown hgr6b (hBXb).size (fun k hk => by injection hk with hk; subst hk; exact (ownV_farI hE2b).1)
          have hX6b := Whole.grow hXb hgr6b (by simp)
          refine hK.out _ _ ?_ (fun hHeld => ?_)
          · (try dsimp only); exact hB6b
          clear hK K
          try simp only [put_laws]
          refine wpAnyH_ready (rs := [27]) (by kernel_rfl) (by simp) ?_
          refine AllReadyH.cons (by simp only [List.getElem?_toArray, List.getElem?_cons_succ, List.getElem?_cons_zero]; rfl) (fun K hK => ?_) AllReadyH.nil
          rw [if_pos (by rfl)]
          refine wp_pushI (.tmp 45) (.tmp 46) rfl hO6b (hB6b).size hX6b rfl rfl (by omega) ?_; intro g9b cap9b w9b hO9b hgr9b
          have hB9b := (hB6b).grown hgr9b (hB6b).size (fun k hk => (hO6b.lt k hk).1)
          refine hK.out _ _ ?_ (fun hHeld => ?_)
          · (try dsimp only); exact hB9b
          clear hK K
          try simp only [put_laws]
          refine wpAnyH_ready (rs := [28]) (by kernel_rfl) (by simp) ?_
          refine AllReadyH.cons (by simp only [List.getElem?_toArray, List.getElem?_cons_succ, List.getElem?_cons_zero]; rfl) (fun K hK => ?_) AllReadyH.nil
          go_simp
          refine (giveMany_any _ (m + 1) cap9b (xs ++ [(-1)]) w9b (by omega) (ints_own hO9b).1).mono ?_; rintro e w10b ⟨rfl, rfl⟩; rw [HZ2.out]
          refine hK.out _ _ ?_ (fun hHeld => ?_)
          · (try dsimp only); exact hB9b
          clear hK K
          try simp only [put_laws]
          refine wpAnyH_take (i := 30) (v := ?vz44_30) (by simp only [List.getElem?_toArray, List.getElem?_cons_succ, List.getElem?_cons_zero]; rfl) (by kernel_rfl) (by kernel_rfl) (by kernel_rfl) (by exact fun _ _ _ h => h) (Or.inl ⟨by rfl, ?hz44_30⟩) hHeld ?rz44_30
          case hz44_30 => (intro w hSw; (try dsimp only at hSw); go_simp; (try with_reducible rfl))
          try simp only [put_laws]
          refine wpAnyH_take (i := 31) (v := ?vz45_31) (by simp only [List.getElem?_toArray, List.getElem?_cons_succ, List.getElem?_cons_zero]; rfl) (by kernel_rfl) (by kernel_rfl) (by kernel_rfl) (by exact fun _ _ _ h => h) (Or.inl ⟨by rfl, ?hz45_31⟩) hHeld ?rz45_31
          case hz45_31 => (intro w hSw; (try dsimp only at hSw); go_simp; (try with_reducible rfl))
          try simp only [put_laws]
          refine wpAnyH_take (i := 32) (v := ?vz46_32) (by simp only [List.getElem?_toArray, List.getElem?_cons_succ, List.getElem?_cons_zero]; rfl) (by kernel_rfl) (by kernel_rfl) (by kernel_rfl) (by exact fun _ _ _ h => h) (Or.inl ⟨by rfl, ?hz46_32⟩) hHeld ?rz46_32
          case hz46_32 => (intro w hSw; (try dsimp only at hSw); go_simp; (try with_reducible rfl))
          try simp only [put_laws]
          refine wpAnyH_ready (rs := [33]) (by kernel_rfl) (by simp) ?_
          refine AllReadyH.cons (by simp only [List.getElem?_toArray, List.getElem?_cons_succ, List.getElem?_cons_zero]; rfl) (fun K hK => ?_) AllReadyH.nil
          go_simp
          refine (alive_any _).mono ?_; rintro e wz ⟨rfl, hbz⟩
          have hBz := hB9b.trans (hbz.mono hB9b.size)
          refine hK.out _ _ ?_ (fun hHeld => ?_)
          · (try dsimp only); exact hBz
          clear hK K
          try simp only [put_laws]
          refine wpAnyH_take (i := 34) (v := ?vz47_34) (by simp only [List.getElem?_toArray, List.getElem?_cons_succ, List.getElem?_cons_zero]; rfl) (by kernel_rfl) (by kernel_rfl) (by kernel_rfl) (by exact fun _ _ _ h => h) (Or.inl ⟨by rfl, ?hz47_34⟩) hHeld ?rz47_34
          case hz47_34 => (intro w hSw; (try dsimp only at hSw); go_simp; (try with_reducible rfl))
          try simp only [put_laws]
          refine wpAnyH_take (i := 35) (v := ?vz48_35) (by simp only [List.getElem?_toArray, List.getElem?_cons_succ, List.getElem?_cons_zero]; rfl) (by kernel_rfl) (by kernel_rfl) (by kernel_rfl) (by exact fun _ _ _ h => h) (Or.inl ⟨by rfl, ?hz48_35⟩) hHeld ?rz48_35
          case hz48_35 => (intro w hSw; (try dsimp only at hSw); go_simp; (try with_reducible rfl))
          try simp only [put_laws]
          refine wpAnyH_done (by kernel_rfl) ?_ _
          go_wp2
          all_goals
            go_ret
            exact ⟨rfl, below_next hb1 hBz⟩
      · skip
        go_simp
        have hXb : Whole (w9a.alloc (.cells #[.int .i64 (-1)] 3)) (w9a).heap.size 3 [.int .i64 (-1)] := Whole.new _ _ _
        have hBXb := (hB9a).alloc (hB9a).size (.cells #[.int .i64 (-1)] 3)
        refine hK.out _ _ ?_ (fun hHeld => ?_)
        · (try dsimp only); exact hBXb
        clear hK K
        try simp only [put_laws]
        refine wpAnyH_ready (rs := [23]) (by kernel_rfl) (by simp) ?_
        refine AllReadyH.cons (by simp only [List.getElem?_toArray, List.getElem?_cons_succ, List.getElem?_cons_zero]; rfl) (fun K hK => ?_) AllReadyH.nil
        go_simp
        have hEb := own0 (base := w1.heap.size) (w1 := (w9a.alloc (.cells #[.int .i64 (-1)] 3))) (hBXb).size
        rw [show ((w9a.alloc (.cells #[.int .i64 (-1)] 3))).heap.size = w9a.heap.size + 1 by simp] at hEb
        have hBEb := (hBXb).alloc (hBXb).size (.cells #[] 3)
        have hX5b := hXb.alloc (.cells #[] 3)
        refine hK.out _ _ ?_ (fun hHeld => ?_)
        · (try dsimp only); exact hBEb
        clear hK K
        try simp only [put_laws]
        refine wpAnyH_ready (rs := [25]) (by kernel_rfl) (by simp) ?_
        refine AllReadyH.cons (by simp only [List.getElem?_toArray, List.getElem?_cons_succ, List.getElem?_cons_zero]; rfl) (fun K hK => ?_) AllReadyH.nil
        rw [if_pos (by rfl)]
        refine wp_copyI (.tmp 43) (.tmp 44) rfl hEb (hBEb).size (HI.out.below (hBEb)) rfl rfl (by omega) ?_; intro v6b w6b hO6b hgr6b
        have hB6b := (hBEb).grown hgr6b (hBEb).size (fun k hk => by injection hk with hk; subst hk; exact (ownV_farI hEb).1)
        have hX6b := Whole.grow hX5b hgr6b (by simp)
        refine hK.out _ _ ?_ (fun hHeld => ?_)
        · (try dsimp only); exact hB6b
        clear hK K
        try simp only [put_laws]
        refine wpAnyH_ready (rs := [27]) (by kernel_rfl) (by simp) ?_
        refine AllReadyH.cons (by simp only [List.getElem?_toArray, List.getElem?_cons_succ, List.getElem?_cons_zero]; rfl) (fun K hK => ?_) AllReadyH.nil
        rw [if_pos (by rfl)]
        refine wp_pushI (.tmp 45) (.tmp 46) rfl hO6b (hB6b).size hX6b rfl rfl (by omega) ?_; intro g9b cap9b w9b hO9b hgr9b
        have hB9b := (hB6b).grown hgr9b (hB6b).size (fun k hk => (hO6b.lt k hk).1)
        refine hK.out _ _ ?_ (fun hHeld => ?_)
        · (try dsimp only); exact hB9b
        clear hK K
        try simp only [put_laws]
        refine wpAnyH_ready (rs := [28]) (by kernel_rfl) (by simp) ?_
        refine AllReadyH.cons (by simp only [List.getElem?_toArray, List.getElem?_cons_succ, List.getElem?_cons_zero]; rfl) (fun K hK => ?_) AllReadyH.nil
        go_simp
        refine (giveMany_any _ (m + 1) cap9b (xs ++ [(-1)]) w9b (by omega) (ints_own hO9b).1).mono ?_; rintro e w10b ⟨rfl, rfl⟩; rw [HZ2.out]
        refine hK.out _ _ ?_ (fun hHeld => ?_)
        · (try dsimp only); exact hB9b
        clear hK K
        try simp only [put_laws]
        refine wpAnyH_take (i := 30) (v := ?vz49_30) (by simp only [List.getElem?_toArray, List.getElem?_cons_succ, List.getElem?_cons_zero]; rfl) (by kernel_rfl) (by kernel_rfl) (by kernel_rfl) (by exact fun _ _ _ h => h) (Or.inl ⟨by rfl, ?hz49_30⟩) hHeld ?rz49_30
        case hz49_30 => (intro w hSw; (try dsimp only at hSw); go_simp; (try with_reducible rfl))
        try simp only [put_laws]
        refine wpAnyH_take (i := 31) (v := ?vz50_31) (by simp only [List.getElem?_toArray, List.getElem?_cons_succ, List.getElem?_cons_zero]; rfl) (by kernel_rfl) (by kernel_rfl) (by kernel_rfl) (by exact fun _ _ _ h => h) (Or.inl ⟨by rfl, ?hz50_31⟩) hHeld ?rz50_31
        case hz50_31 => (intro w hSw; (try dsimp only at hSw); go_simp; (try with_reducible rfl))
        try simp only [put_laws]
        refine wpAnyH_take (i := 32) (v := ?vz51_32) (by simp only [List.getElem?_toArray, List.getElem?_cons_succ, List.getElem?_cons_zero]; rfl) (by kernel_rfl) (by kernel_rfl) (by kernel_rfl) (by exact fun _ _ _ h => h) (Or.inl ⟨by rfl, ?hz51_32⟩) hHeld ?rz51_32
        case hz51_32 => (intro w hSw; (try dsimp only at hSw); go_simp; (try with_reducible rfl))
        try simp only [put_laws]
        refine wpAnyH_ready (rs := [33]) (by kernel_rfl) (by simp) ?_
        refine AllReadyH.cons (by simp only [List.getElem?_toArray, List.getElem?_cons_succ, List.getElem?_cons_zero]; rfl) (fun K hK => ?_) AllReadyH.nil
        go_simp
        refine (alive_any _).mono ?_; rintro e wz ⟨rfl, hbz⟩
        have hBz := hB9b.trans (hbz.mono hB9b.size)
        refine hK.out _ _ ?_ (fun hHeld => ?_)
        · (try dsimp only); exact hBz
        clear hK K
        try simp only [put_laws]
        refine wpAnyH_take (i := 34) (v := ?vz52_34) (by simp only [List.getElem?_toArray, List.getElem?_cons_succ, List.getElem?_cons_zero]; rfl) (by kernel_rfl) (by kernel_rfl) (by kernel_rfl) (by exact fun _ _ _ h => h) (Or.inl ⟨by rfl, ?hz52_34⟩) hHeld ?rz52_34
        case hz52_34 => (intro w hSw; (try dsimp only at hSw); go_simp; (try with_reducible rfl))
        try simp only [put_laws]
        refine wpAnyH_take (i := 35) (v := ?vz53_35) (by simp only [List.getElem?_toArray, List.getElem?_cons_succ, List.getElem?_cons_zero]; rfl) (by kernel_rfl) (by kernel_rfl) (by kernel_rfl) (by exact fun _ _ _ h => h) (Or.inl ⟨by rfl, ?hz53_35⟩) hHeld ?rz53_35
        case hz53_35 => (intro w hSw; (try dsimp only at hSw); go_simp; (try with_reducible rfl))
        try simp only [put_laws]
        refine wpAnyH_done (by kernel_rfl) ?_ _
        go_wp2
        all_goals
          go_ret
          exact ⟨rfl, below_next hb1 hBz⟩
  · skip
    go_simp
    have hXa : Whole (w1.drew.alloc (.cells #[.int .i64 0] 3)) (w1.drew).heap.size 3 [.int .i64 0] := Whole.new _ _ _
    have hBXa := (hB0).alloc (hB0).size (.cells #[.int .i64 0] 3)
    refine hK.out _ _ ?_ (fun hHeld => ?_)
    · (try dsimp only); exact hBXa
    clear hK K
    try simp only [put_laws]
    refine wpAnyH_ready (rs := [12]) (by kernel_rfl) (by simp) ?_
    refine AllReadyH.cons (by simp only [List.getElem?_toArray, List.getElem?_cons_succ, List.getElem?_cons_zero]; rfl) (fun K hK => ?_) AllReadyH.nil
    go_simp
    have hEa := own0 (base := w1.heap.size) (w1 := (w1.drew.alloc (.cells #[.int .i64 0] 3))) (hBXa).size
    rw [show ((w1.drew.alloc (.cells #[.int .i64 0] 3))).heap.size = w1.heap.size + 1 by simp] at hEa
    have hBEa := (hBXa).alloc (hBXa).size (.cells #[] 3)
    have hX5a := hXa.alloc (.cells #[] 3)
    refine hK.out _ _ ?_ (fun hHeld => ?_)
    · (try dsimp only); exact hBEa
    clear hK K
    try simp only [put_laws]
    refine wpAnyH_ready (rs := [14]) (by kernel_rfl) (by simp) ?_
    refine AllReadyH.cons (by simp only [List.getElem?_toArray, List.getElem?_cons_succ, List.getElem?_cons_zero]; rfl) (fun K hK => ?_) AllReadyH.nil
    rw [if_pos (by rfl)]
    refine wp_copyI (.tmp 32) (.tmp 33) rfl hEa (hBEa).size (HI.out.below (hBEa)) rfl rfl (by omega) ?_; intro v6a w6a hO6a hgr6a
    have hB6a := (hBEa).grown hgr6a (hBEa).size (fun k hk => by injection hk with hk; subst hk; exact (ownV_farI hEa).1)
    have hX6a := Whole.grow hX5a hgr6a (by simp)
    refine hK.out _ _ ?_ (fun hHeld => ?_)
    · (try dsimp only); exact hB6a
    clear hK K
    try simp only [put_laws]
    refine wpAnyH_ready (rs := [16]) (by kernel_rfl) (by simp) ?_
    refine AllReadyH.cons (by simp only [List.getElem?_toArray, List.getElem?_cons_succ, List.getElem?_cons_zero]; rfl) (fun K hK => ?_) AllReadyH.nil
    rw [if_pos (by rfl)]
    refine wp_pushI (.tmp 34) (.tmp 35) rfl hO6a (hB6a).size hX6a rfl rfl (by omega) ?_; intro g9a cap9a w9a hO9a hgr9a
    have hB9a := (hB6a).grown hgr9a (hB6a).size (fun k hk => (hO6a.lt k hk).1)
    refine hK.out _ _ ?_ (fun hHeld => ?_)
    · (try dsimp only); exact hB9a
    clear hK K
    try simp only [put_laws]
    refine wpAnyH_ready (rs := [17]) (by kernel_rfl) (by simp) ?_
    refine AllReadyH.cons (by simp only [List.getElem?_toArray, List.getElem?_cons_succ, List.getElem?_cons_zero]; rfl) (fun K hK => ?_) AllReadyH.nil
    go_simp
    refine (giveMany_any _ (m + 1) cap9a (xs ++ [0]) w9a (by omega) (ints_own hO9a).1).mono ?_; rintro e w10a ⟨rfl, rfl⟩; rw [HZ1.out]
    refine hK.out _ _ ?_ (fun hHeld => ?_)
    · (try dsimp only); exact hB9a
    clear hK K
    try simp only [put_laws]
    refine wpAnyH_take (i := 20) (v := ?vz54_20) (by simp only [List.getElem?_toArray, List.getElem?_cons_succ, List.getElem?_cons_zero]; rfl) (by kernel_rfl) (by kernel_rfl) (by kernel_rfl) (by exact fun _ _ _ h => h) (Or.inl ⟨by rfl, ?hz54_20⟩) hHeld ?rz54_20
    case hz54_20 => (intro w hSw; (try dsimp only at hSw); go_simp; (try with_reducible rfl))
    try simp only [put_laws]
    refine wpAnyH_take (i := 21) (v := ?vz55_21) (by simp only [List.getElem?_toArray, List.getElem?_cons_succ, List.getElem?_cons_zero]; rfl) (by kernel_rfl) (by kernel_rfl) (by kernel_rfl) (by exact fun _ _ _ h => h) (Or.inl ⟨by rfl, ?hz55_21⟩) hHeld ?rz55_21
    case hz55_21 => (intro w hSw; (try dsimp only at hSw); go_simp; (try with_reducible rfl))
    try simp only [put_laws]
    refine wpAnyH_take (i := 22) (v := ?vz56_22) (by simp only [List.getElem?_toArray, List.getElem?_cons_succ, List.getElem?_cons_zero]; rfl) (by kernel_rfl) (by kernel_rfl) (by kernel_rfl) (by exact fun _ _ _ h => h) (Or.inl ⟨by rfl, ?hz56_22⟩) hHeld ?rz56_22
    case hz56_22 => (intro w hSw; (try dsimp only at hSw); go_simp; (try with_reducible rfl))
    try simp only [put_laws]
    refine wpAnyH_take (i := 24) (v := ?vz57_24) (by simp only [List.getElem?_toArray, List.getElem?_cons_succ, List.getElem?_cons_zero]; rfl) (by kernel_rfl) (by kernel_rfl) (by kernel_rfl) (by exact fun _ _ _ h => h) (Or.inl ⟨by rfl, ?hz57_24⟩) hHeld ?rz57_24
    case hz57_24 => (intro w hSw; (try dsimp only at hSw); go_simp; (try with_reducible rfl))
    try simp only [put_laws]
    refine wpAnyH_take (i := 29) (v := ?vz58_29) (by simp only [List.getElem?_toArray, List.getElem?_cons_succ, List.getElem?_cons_zero]; rfl) (by kernel_rfl) (by kernel_rfl) (by kernel_rfl) (by exact fun _ _ _ h => h) (Or.inl ⟨by rfl, ?hz58_29⟩) hHeld ?rz58_29
    case hz58_29 => (intro w hSw; (try dsimp only at hSw); go_simp; (try with_reducible rfl))
    try simp only [put_laws]
    refine wpAnyH_ready (rs := [23, 26]) (by kernel_rfl) (by simp) ?_
    refine AllReadyH.cons (by simp only [List.getElem?_toArray, List.getElem?_cons_succ, List.getElem?_cons_zero]; rfl) (fun K hK => ?_) (AllReadyH.cons (by simp only [List.getElem?_toArray, List.getElem?_cons_succ, List.getElem?_cons_zero]; rfl) (fun K hK => ?_) AllReadyH.nil)
    · skip
      go_simp
      have hEb := own0 (base := w1.heap.size) (w1 := w9a) (hB9a).size
      have hBEb := (hB9a).alloc (hB9a).size (.cells #[] 3)
      refine hK.out _ _ ?_ (fun hHeld => ?_)
      · (try dsimp only); exact hBEb
      clear hK K
      try simp only [put_laws]
      refine wpAnyH_ready (rs := [25, 26]) (by kernel_rfl) (by simp) ?_
      refine AllReadyH.cons (by simp only [List.getElem?_toArray, List.getElem?_cons_succ, List.getElem?_cons_zero]; rfl) (fun K hK => ?_) (AllReadyH.cons (by simp only [List.getElem?_toArray, List.getElem?_cons_succ, List.getElem?_cons_zero]; rfl) (fun K hK => ?_) AllReadyH.nil)
      · skip
        rw [if_pos (by rfl)]
        refine wp_copyI (.tmp 43) (.tmp 44) rfl hEb (hBEb).size (HI.out.below (hBEb)) rfl rfl (by omega) ?_; intro v6b w6b hO6b hgr6b
        have hB6b := (hBEb).grown hgr6b (hBEb).size (fun k hk => by injection hk with hk; subst hk; exact (ownV_farI hEb).1)
        refine hK.out _ _ ?_ (fun hHeld => ?_)
        · (try dsimp only); exact hB6b
        clear hK K
        try simp only [put_laws]
        refine wpAnyH_ready (rs := [26]) (by kernel_rfl) (by simp) ?_
        refine AllReadyH.cons (by simp only [List.getElem?_toArray, List.getElem?_cons_succ, List.getElem?_cons_zero]; rfl) (fun K hK => ?_) AllReadyH.nil
        go_simp
        have hXb : Whole (w6b.alloc (.cells #[.int .i64 (-1)] 3)) (w6b).heap.size 3 [.int .i64 (-1)] := Whole.new _ _ _
        have hBXb := (hB6b).alloc (hB6b).size (.cells #[.int .i64 (-1)] 3)
        refine hK.out _ _ ?_ (fun hHeld => ?_)
        · (try dsimp only); exact hBXb
        clear hK K
        try simp only [put_laws]
        have hO7b := own_keep hO6b ((Below.refl w6b.heap.size w6b).alloc (Nat.le_refl _) (.cells #[.int .i64 (-1)] 3))
        refine wpAnyH_ready (rs := [27]) (by kernel_rfl) (by simp) ?_
        refine AllReadyH.cons (by simp only [List.getElem?_toArray, List.getElem?_cons_succ, List.getElem?_cons_zero]; rfl) (fun K hK => ?_) AllReadyH.nil
        rw [if_pos (by rfl)]
        refine wp_pushI (.tmp 45) (.tmp 46) rfl hO7b (hBXb).size hXb rfl rfl (by omega) ?_; intro g9b cap9b w9b hO9b hgr9b
        have hB9b := (hBXb).grown hgr9b (hBXb).size (fun k hk => (hO7b.lt k hk).1)
        refine hK.out _ _ ?_ (fun hHeld => ?_)
        · (try dsimp only); exact hB9b
        clear hK K
        try simp only [put_laws]
        refine wpAnyH_ready (rs := [28]) (by kernel_rfl) (by simp) ?_
        refine AllReadyH.cons (by simp only [List.getElem?_toArray, List.getElem?_cons_succ, List.getElem?_cons_zero]; rfl) (fun K hK => ?_) AllReadyH.nil
        go_simp
        refine (giveMany_any _ (m + 1) cap9b (xs ++ [(-1)]) w9b (by omega) (ints_own hO9b).1).mono ?_; rintro e w10b ⟨rfl, rfl⟩; rw [HZ2.out]
        refine hK.out _ _ ?_ (fun hHeld => ?_)
        · (try dsimp only); exact hB9b
        clear hK K
        try simp only [put_laws]
        refine wpAnyH_take (i := 30) (v := ?vz59_30) (by simp only [List.getElem?_toArray, List.getElem?_cons_succ, List.getElem?_cons_zero]; rfl) (by kernel_rfl) (by kernel_rfl) (by kernel_rfl) (by exact fun _ _ _ h => h) (Or.inl ⟨by rfl, ?hz59_30⟩) hHeld ?rz59_30
        case hz59_30 => (intro w hSw; (try dsimp only at hSw); go_simp; (try with_reducible rfl))
        try simp only [put_laws]
        refine wpAnyH_take (i := 31) (v := ?vz60_31) (by simp only [List.getElem?_toArray, List.getElem?_cons_succ, List.getElem?_cons_zero]; rfl) (by kernel_rfl) (by kernel_rfl) (by kernel_rfl) (by exact fun _ _ _ h => h) (Or.inl ⟨by rfl, ?hz60_31⟩) hHeld ?rz60_31
        case hz60_31 => (intro w hSw; (try dsimp only at hSw); go_simp; (try with_reducible rfl))
        try simp only [put_laws]
        refine wpAnyH_take (i := 32) (v := ?vz61_32) (by simp only [List.getElem?_toArray, List.getElem?_cons_succ, List.getElem?_cons_zero]; rfl) (by kernel_rfl) (by kernel_rfl) (by kernel_rfl) (by exact fun _ _ _ h => h) (Or.inl ⟨by rfl, ?hz61_32⟩) hHeld ?rz61_32
        case hz61_32 => (intro w hSw; (try dsimp only at hSw); go_simp; (try with_reducible rfl))
        try simp only [put_laws]
        refine wpAnyH_ready (rs := [33]) (by kernel_rfl) (by simp) ?_
        refine AllReadyH.cons (by simp only [List.getElem?_toArray, List.getElem?_cons_succ, List.getElem?_cons_zero]; rfl) (fun K hK => ?_) AllReadyH.nil
        go_simp
        refine (alive_any _).mono ?_; rintro e wz ⟨rfl, hbz⟩
        have hBz := hB9b.trans (hbz.mono hB9b.size)
        refine hK.out _ _ ?_ (fun hHeld => ?_)
        · (try dsimp only); exact hBz
        clear hK K
        try simp only [put_laws]
        refine wpAnyH_take (i := 34) (v := ?vz62_34) (by simp only [List.getElem?_toArray, List.getElem?_cons_succ, List.getElem?_cons_zero]; rfl) (by kernel_rfl) (by kernel_rfl) (by kernel_rfl) (by exact fun _ _ _ h => h) (Or.inl ⟨by rfl, ?hz62_34⟩) hHeld ?rz62_34
        case hz62_34 => (intro w hSw; (try dsimp only at hSw); go_simp; (try with_reducible rfl))
        try simp only [put_laws]
        refine wpAnyH_take (i := 35) (v := ?vz63_35) (by simp only [List.getElem?_toArray, List.getElem?_cons_succ, List.getElem?_cons_zero]; rfl) (by kernel_rfl) (by kernel_rfl) (by kernel_rfl) (by exact fun _ _ _ h => h) (Or.inl ⟨by rfl, ?hz63_35⟩) hHeld ?rz63_35
        case hz63_35 => (intro w hSw; (try dsimp only at hSw); go_simp; (try with_reducible rfl))
        try simp only [put_laws]
        refine wpAnyH_done (by kernel_rfl) ?_ _
        go_wp2
        all_goals
          go_ret
          exact ⟨rfl, below_next hb1 hBz⟩
      · skip
        go_simp
        have hXb : Whole ((w9a.alloc (.cells #[] 3)).alloc (.cells #[.int .i64 (-1)] 3)) ((w9a.alloc (.cells #[] 3))).heap.size 3 [.int .i64 (-1)] := Whole.new _ _ _
        rw [show ((w9a.alloc (.cells #[] 3))).heap.size = w9a.heap.size + 1 by simp] at hXb
        have hBXb := (hBEb).alloc (hBEb).size (.cells #[.int .i64 (-1)] 3)
        refine hK.out _ _ ?_ (fun hHeld => ?_)
        · (try dsimp only); exact hBXb
        clear hK K
        try simp only [put_laws]
        have hE2b := own_keep hEb ((Below.refl _ _).alloc (Nat.le_refl _) (.cells #[.int .i64 (-1)] 3))
        refine wpAnyH_ready (rs := [25]) (by kernel_rfl) (by simp) ?_
        refine AllReadyH.cons (by simp only [List.getElem?_toArray, List.getElem?_cons_succ, List.getElem?_cons_zero]; rfl) (fun K hK => ?_) AllReadyH.nil
        rw [if_pos (by rfl)]
        refine wp_copyI (.tmp 43) (.tmp 44) rfl hE2b (hBXb).size (HI.out.below (hBXb)) rfl rfl (by omega) ?_; intro v6b w6b hO6b hgr6b
        have hB6b := (hBXb).grown hgr6b (hBXb).size (fun k hk => by injection hk with hk; subst hk; exact (ownV_farI hE2b).1)
        have hX6b := Whole.grow hXb hgr6b (by simp)
        refine hK.out _ _ ?_ (fun hHeld => ?_)
        · (try dsimp only); exact hB6b
        clear hK K
        try simp only [put_laws]
        refine wpAnyH_ready (rs := [27]) (by kernel_rfl) (by simp) ?_
        refine AllReadyH.cons (by simp only [List.getElem?_toArray, List.getElem?_cons_succ, List.getElem?_cons_zero]; rfl) (fun K hK => ?_) AllReadyH.nil
        rw [if_pos (by rfl)]
        refine wp_pushI (.tmp 45) (.tmp 46) rfl hO6b (hB6b).size hX6b rfl rfl (by omega) ?_; intro g9b cap9b w9b hO9b hgr9b
        have hB9b := (hB6b).grown hgr9b (hB6b).size (fun k hk => (hO6b.lt k hk).1)
        refine hK.out _ _ ?_ (fun hHeld => ?_)
        · (try dsimp only); exact hB9b
        clear hK K
        try simp only [put_laws]
        refine wpAnyH_ready (rs := [28]) (by kernel_rfl) (by simp) ?_
        refine AllReadyH.cons (by simp only [List.getElem?_toArray, List.getElem?_cons_succ, List.getElem?_cons_zero]; rfl) (fun K hK => ?_) AllReadyH.nil
        go_simp
        refine (giveMany_any _ (m + 1) cap9b (xs ++ [(-1)]) w9b (by omega) (ints_own hO9b).1).mono ?_; rintro e w10b ⟨rfl, rfl⟩; rw [HZ2.out]
        refine hK.out _ _ ?_ (fun hHeld => ?_)
        · (try dsimp only); exact hB9b
        clear hK K
        try simp only [put_laws]
        refine wpAnyH_take (i := 30) (v := ?vz64_30) (by simp only [List.getElem?_toArray, List.getElem?_cons_succ, List.getElem?_cons_zero]; rfl) (by kernel_rfl) (by kernel_rfl) (by kernel_rfl) (by exact fun _ _ _ h => h) (Or.inl ⟨by rfl, ?hz64_30⟩) hHeld ?rz64_30
        case hz64_30 => (intro w hSw; (try dsimp only at hSw); go_simp; (try with_reducible rfl))
        try simp only [put_laws]
        refine wpAnyH_take (i := 31) (v := ?vz65_31) (by simp only [List.getElem?_toArray, List.getElem?_cons_succ, List.getElem?_cons_zero]; rfl) (by kernel_rfl) (by kernel_rfl) (by kernel_rfl) (by exact fun _ _ _ h => h) (Or.inl ⟨by rfl, ?hz65_31⟩) hHeld ?rz65_31
        case hz65_31 => (intro w hSw; (try dsimp only at hSw); go_simp; (try with_reducible rfl))
        try simp only [put_laws]
        refine wpAnyH_take (i := 32) (v := ?vz66_32) (by simp only [List.getElem?_toArray, List.getElem?_cons_succ, List.getElem?_cons_zero]; rfl) (by kernel_rfl) (by kernel_rfl) (by kernel_rfl) (by exact fun _ _ _ h => h) (Or.inl ⟨by rfl, ?hz66_32⟩) hHeld ?rz66_32
        case hz66_32 => (intro w hSw; (try dsimp only at hSw); go_simp; (try with_reducible rfl))
        try simp only [put_laws]
        refine wpAnyH_ready (rs := [33]) (by kernel_rfl) (by simp) ?_
        refine AllReadyH.cons (by simp only [List.getElem?_toArray, List.getElem?_cons_succ, List.getElem?_cons_zero]; rfl) (fun K hK => ?_) AllReadyH.nil
        go_simp
        refine (alive_any _).mono ?_; rintro e wz ⟨rfl, hbz⟩
        have hBz := hB9b.trans (hbz.mono hB9b.size)
        refine hK.out _ _ ?_ (fun hHeld => ?_)
        · (try dsimp only); exact hBz
        clear hK K
        try simp only [put_laws]
        refine wpAnyH_take (i := 34) (v := ?vz67_34) (by simp only [List.getElem?_toArray, List.getElem?_cons_succ, List.getElem?_cons_zero]; rfl) (by kernel_rfl) (by kernel_rfl) (by kernel_rfl) (by exact fun _ _ _ h => h) (Or.inl ⟨by rfl, ?hz67_34⟩) hHeld ?rz67_34
        case hz67_34 => (intro w hSw; (try dsimp only at hSw); go_simp; (try with_reducible rfl))
        try simp only [put_laws]
        refine wpAnyH_take (i := 35) (v := ?vz68_35) (by simp only [List.getElem?_toArray, List.getElem?_cons_succ, List.getElem?_cons_zero]; rfl) (by kernel_rfl) (by kernel_rfl) (by kernel_rfl) (by exact fun _ _ _ h => h) (Or.inl ⟨by rfl, ?hz68_35⟩) hHeld ?rz68_35
        case hz68_35 => (intro w hSw; (try dsimp only at hSw); go_simp; (try with_reducible rfl))
        try simp only [put_laws]
        refine wpAnyH_done (by kernel_rfl) ?_ _
        go_wp2
        all_goals
          go_ret
          exact ⟨rfl, below_next hb1 hBz⟩
    · skip
      go_simp
      have hXb : Whole (w9a.alloc (.cells #[.int .i64 (-1)] 3)) (w9a).heap.size 3 [.int .i64 (-1)] := Whole.new _ _ _
      have hBXb := (hB9a).alloc (hB9a).size (.cells #[.int .i64 (-1)] 3)
      refine hK.out _ _ ?_ (fun hHeld => ?_)
      · (try dsimp only); exact hBXb
      clear hK K
      try simp only [put_laws]
      refine wpAnyH_ready (rs := [23]) (by kernel_rfl) (by simp) ?_
      refine AllReadyH.cons (by simp only [List.getElem?_toArray, List.getElem?_cons_succ, List.getElem?_cons_zero]; rfl) (fun K hK => ?_) AllReadyH.nil
      go_simp
      have hEb := own0 (base := w1.heap.size) (w1 := (w9a.alloc (.cells #[.int .i64 (-1)] 3))) (hBXb).size
      rw [show ((w9a.alloc (.cells #[.int .i64 (-1)] 3))).heap.size = w9a.heap.size + 1 by simp] at hEb
      have hBEb := (hBXb).alloc (hBXb).size (.cells #[] 3)
      have hX5b := hXb.alloc (.cells #[] 3)
      refine hK.out _ _ ?_ (fun hHeld => ?_)
      · (try dsimp only); exact hBEb
      clear hK K
      try simp only [put_laws]
      refine wpAnyH_ready (rs := [25]) (by kernel_rfl) (by simp) ?_
      refine AllReadyH.cons (by simp only [List.getElem?_toArray, List.getElem?_cons_succ, List.getElem?_cons_zero]; rfl) (fun K hK => ?_) AllReadyH.nil
      rw [if_pos (by rfl)]
      refine wp_copyI (.tmp 43) (.tmp 44) rfl hEb (hBEb).size (HI.out.below (hBEb)) rfl rfl (by omega) ?_; intro v6b w6b hO6b hgr6b
      have hB6b := (hBEb).grown hgr6b (hBEb).size (fun k hk => by injection hk with hk; subst hk; exact (ownV_farI hEb).1)
      have hX6b := Whole.grow hX5b hgr6b (by simp)
      refine hK.out _ _ ?_ (fun hHeld => ?_)
      · (try dsimp only); exact hB6b
      clear hK K
      try simp only [put_laws]
      refine wpAnyH_ready (rs := [27]) (by kernel_rfl) (by simp) ?_
      refine AllReadyH.cons (by simp only [List.getElem?_toArray, List.getElem?_cons_succ, List.getElem?_cons_zero]; rfl) (fun K hK => ?_) AllReadyH.nil
      rw [if_pos (by rfl)]
      refine wp_pushI (.tmp 45) (.tmp 46) rfl hO6b (hB6b).size hX6b rfl rfl (by omega) ?_; intro g9b cap9b w9b hO9b hgr9b
      have hB9b := (hB6b).grown hgr9b (hB6b).size (fun k hk => (hO6b.lt k hk).1)
      refine hK.out _ _ ?_ (fun hHeld => ?_)
      · (try dsimp only); exact hB9b
      clear hK K
      try simp only [put_laws]
      refine wpAnyH_ready (rs := [28]) (by kernel_rfl) (by simp) ?_
      refine AllReadyH.cons (by simp only [List.getElem?_toArray, List.getElem?_cons_succ, List.getElem?_cons_zero]; rfl) (fun K hK => ?_) AllReadyH.nil
      go_simp
      refine (giveMany_any _ (m + 1) cap9b (xs ++ [(-1)]) w9b (by omega) (ints_own hO9b).1).mono ?_; rintro e w10b ⟨rfl, rfl⟩; rw [HZ2.out]
      refine hK.out _ _ ?_ (fun hHeld => ?_)
      · (try dsimp only); exact hB9b
      clear hK K
      try simp only [put_laws]
      refine wpAnyH_take (i := 30) (v := ?vz69_30) (by simp only [List.getElem?_toArray, List.getElem?_cons_succ, List.getElem?_cons_zero]; rfl) (by kernel_rfl) (by kernel_rfl) (by kernel_rfl) (by exact fun _ _ _ h => h) (Or.inl ⟨by rfl, ?hz69_30⟩) hHeld ?rz69_30
      case hz69_30 => (intro w hSw; (try dsimp only at hSw); go_simp; (try with_reducible rfl))
      try simp only [put_laws]
      refine wpAnyH_take (i := 31) (v := ?vz70_31) (by simp only [List.getElem?_toArray, List.getElem?_cons_succ, List.getElem?_cons_zero]; rfl) (by kernel_rfl) (by kernel_rfl) (by kernel_rfl) (by exact fun _ _ _ h => h) (Or.inl ⟨by rfl, ?hz70_31⟩) hHeld ?rz70_31
      case hz70_31 => (intro w hSw; (try dsimp only at hSw); go_simp; (try with_reducible rfl))
      try simp only [put_laws]
      refine wpAnyH_take (i := 32) (v := ?vz71_32) (by simp only [List.getElem?_toArray, List.getElem?_cons_succ, List.getElem?_cons_zero]; rfl) (by kernel_rfl) (by kernel_rfl) (by kernel_rfl) (by exact fun _ _ _ h => h) (Or.inl ⟨by rfl, ?hz71_32⟩) hHeld ?rz71_32
      case hz71_32 => (intro w hSw; (try dsimp only at hSw); go_simp; (try with_reducible rfl))
      try simp only [put_laws]
      refine wpAnyH_ready (rs := [33]) (by kernel_rfl) (by simp) ?_
      refine AllReadyH.cons (by simp only [List.getElem?_toArray, List.getElem?_cons_succ, List.getElem?_cons_zero]; rfl) (fun K hK => ?_) AllReadyH.nil
      go_simp
      refine (alive_any _).mono ?_; rintro e wz ⟨rfl, hbz⟩
      have hBz := hB9b.trans (hbz.mono hB9b.size)
      refine hK.out _ _ ?_ (fun hHeld => ?_)
      · (try dsimp only); exact hBz
      clear hK K
      try simp only [put_laws]
      refine wpAnyH_take (i := 34) (v := ?vz72_34) (by simp only [List.getElem?_toArray, List.getElem?_cons_succ, List.getElem?_cons_zero]; rfl) (by kernel_rfl) (by kernel_rfl) (by kernel_rfl) (by exact fun _ _ _ h => h) (Or.inl ⟨by rfl, ?hz72_34⟩) hHeld ?rz72_34
      case hz72_34 => (intro w hSw; (try dsimp only at hSw); go_simp; (try with_reducible rfl))
      try simp only [put_laws]
      refine wpAnyH_take (i := 35) (v := ?vz73_35) (by simp only [List.getElem?_toArray, List.getElem?_cons_succ, List.getElem?_cons_zero]; rfl) (by kernel_rfl) (by kernel_rfl) (by kernel_rfl) (by exact fun _ _ _ h => h) (Or.inl ⟨by rfl, ?hz73_35⟩) hHeld ?rz73_35
      case hz73_35 => (intro w hSw; (try dsimp only at hSw); go_simp; (try with_reducible rfl))
      try simp only [put_laws]
      refine wpAnyH_done (by kernel_rfl) ?_ _
      go_wp2
      all_goals
        go_ret
        exact ⟨rfl, below_next hb1 hBz⟩
end Go.Proofs.YtpipbkefelcmbaaDoor
