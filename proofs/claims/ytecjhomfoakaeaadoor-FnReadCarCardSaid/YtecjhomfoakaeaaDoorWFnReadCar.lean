/-
  The law FnReadCar: CarText of the car that is read is the text; with an x behind it a text is refused.
-/
import Derived.Test.YtecjhomfoakaeaaDoorDrCarZ
import Derived.Test.YtecjhomfoakaeaaDoorWFnCarText
namespace Go.Proofs.YtecjhomfoakaeaaDoor
open Go.ChangeShapes Go.WideShapes Go.ChangeAt Go.RowKit

def DrawS (w : World) (e : Ending) (w' : World) : Prop :=
  ∃ s : List UInt8, e = .returned (.string ⟨s.toArray⟩) ∧ s.length ≤ 200 ∧ Below w.heap.size w w'
theorem pick5 : ∀ (w' : World) (G k : Nat), Whole w' G 9 [.string ⟨#[]⟩, .string ⟨#[48]⟩, .string ⟨#[120]⟩, .string ⟨#[58]⟩, .string ⟨#[53]⟩] → k < 5 → ∃ P : List UInt8, P.length ≤ 1 ∧ w'.cell? ⟨G, k, none⟩ = some (.string ⟨P.toArray⟩) := by
  intro w' G k h hk
  have hk5 : k = 0 ∨ k = 1 ∨ k = 2 ∨ k = 3 ∨ k = 4 := by omega
  rcases hk5 with rfl | rfl | rfl | rfl | rfl
  · exact ⟨[], by simp, h.cell 0⟩
  · exact ⟨[48], by simp, h.cell 1⟩
  · exact ⟨[120], by simp, h.cell 2⟩
  · exact ⟨[58], by simp, h.cell 3⟩
  · exact ⟨[53], by simp, h.cell 4⟩
set_option maxRecDepth 100000 in
set_option maxHeartbeats 4000000 in
theorem drawReadCar_any (w : World) (A : Option Addr) (n c : Nat) (bs : List Int) (hn : n ≤ c ∧ c ≤ 9223372036854775807) (hb : BytesAt w A n bs) :
    Calls Tryd.prog 14 #[.slice A n c] w (DrawS w) := by
  go_enter Tryd.func14, Tryd.ntmps14
  go_wp2_with fail
  refine (open_any w A n c bs hn hb).mono ?_; rintro e w2 ⟨R, A1, n1, c1, bs1, rfl, hR2⟩
  go_wp2_with fail
  refine (pick_any w w2 R A1 n1 c1 bs1 0 90 hR2 (by omega)).mono ?_; rintro e w4 ⟨i, rfl, hi0, hi1, -, hR4, hf4⟩
  replace hi1 := hi1 (by omega)
  have hxi : IntKind.i64.wrap (1 + i) = 1 + i := IntWalk.i64_in _ (by omega)
  clear hf4
  go_wp2_with fail
  refine (l20CarOf_zero w w4 R A1 n1 c1 bs1 (0 + 1) (1 + i) hR4 (by omega) (by omega) (by omega)).mono ?_; rintro e w3 ⟨f, t, r, u, rfl, HV, hR3, hf3⟩
  clear hxi hf3 hR4 hR2 hi0 hi1
  go_wp2_with fail
  refine (specCarText_any f t r u _).mono ?_; rintro e w5 ⟨rfl, hb5⟩
  have hR5 := hR3.below hb5
  clear hR3 hb5
  obtain ⟨T, HT⟩ : ∃ x, Hid (x = carT f t r u) := ⟨_, rfl⟩
  have hT1 : T.length ≤ 100 := by rw [HT.out]; exact carT_len f t r u
  have hT0 : 1 ≤ T.length := by rw [HT.out]; exact List.length_pos_iff.2 (carT_ne HV.out)
  rw [← HT.out]
  go_wp2_with fail
  refine (pick_any w w5 R A1 n1 c1 bs1 _ 3 hR5 (by omega)).mono ?_; rintro e w6 ⟨v, rfl, hv0, hv1, -, hR6, hf6⟩
  clear hR5 hf6
  by_cases hz : v = 0
  case neg =>
    have hd : (v == 0) = false := by simpa using hz
    go_wp2
    go_ret
    exact ⟨T, rfl, by omega, hR6.bw⟩
  subst hz
  clear hv0 hv1
  go_wp2_with fail
  refine (pick_any w w6 R A1 n1 c1 bs1 _ (T.length : Int) hR6 (by omega)).mono ?_; rintro e w7 ⟨k, rfl, hk0, hk1, -, hR7, hf7⟩
  replace hk1 := hk1 (by omega)
  obtain ⟨k, rfl⟩ : ∃ j : Nat, k = j := ⟨k.toNat, by omega⟩
  have hkl : k < T.length := by omega
  clear hR6 hf7 hk0 hk1
  go_wp2
  have hks : IntKind.i64.wrap ((k : Int) + 1) = (k : Int) + 1 := IntWalk.i64_in _ (by omega)
  have hkn : ((k : Int) + 1).toNat = k + 1 := by omega
  have hGR : w7.heap.size ≠ R := by have := hR7.lt; omega
  have HP5 := Lib.hid pick5
  have HA1 : Hid (∀ P : List UInt8, P.length ≤ 1 → ∀ w : World, (Op.stringOp .add ((⟨T.toArray⟩ : ByteArray).extract 0 k) ⟨P.toArray⟩).run Tryd.prog w = .ok (.string ⟨(T.take k ++ P).toArray⟩) w) := Lib.hid fun P hP w => by
    rw [ext_list]; simpa using add_lists (T.take k) P (by simp; omega) w
  have HA2 : Hid (∀ P : List UInt8, P.length ≤ 1 → ∀ w : World, (Op.stringOp .add ⟨(T.take k ++ P).toArray⟩ ((⟨T.toArray⟩ : ByteArray).extract (k + 1) T.length)).run Tryd.prog w = .ok (.string ⟨(T.take k ++ P ++ T.drop (k + 1)).toArray⟩) w) := Lib.hid fun P hP w => by
    have e : (T.drop (k + 1)).take (T.length - (k + 1)) = T.drop (k + 1) := List.take_of_length_le (by simp)
    rw [ext_list, e]; exact add_lists (T.take k ++ P) (T.drop (k + 1)) (by simp; omega) w
  have HLN : Hid (∀ P : List UInt8, P.length ≤ 1 → (T.take k ++ P ++ T.drop (k + 1)).length ≤ 200) := Lib.hid fun P hP => by simp; omega
  go_region_with (go_at_call 22; refine (pick_any w _ R A1 n1 c1 bs1 (0 + 1 + 10 + 1 + 1) 5 (by first | exact hR7.below (Below.refl _ _).drew | exact hR7.below ((Below.refl _ _).drew.alloc (Nat.le_refl _) _)) (by omega)).mono ?_; rintro e w10 ⟨v10, rfl, hv100, hv101, -, hR10, hf10⟩; replace hv101 := hv101 (by omega); obtain ⟨k10, rfl⟩ : ∃ k : Nat, v10 = k := ⟨v10.toNat, by omega⟩; (first | (obtain ⟨P, hP, gA⟩ := HP5.out w10 w7.heap.size k10 ((Whole.new w7.drew 9 [.string ⟨#[]⟩, .string ⟨#[48]⟩, .string ⟨#[120]⟩, .string ⟨#[58]⟩, .string ⟨#[53]⟩]).fr1 hf10 hGR) (by omega)) | (obtain ⟨P, hP, gA⟩ := HP5.out (w10.alloc (.cells #[.string ⟨#[]⟩, .string ⟨#[48]⟩, .string ⟨#[120]⟩, .string ⟨#[58]⟩, .string ⟨#[53]⟩] 9)) w10.heap.size k10 (Whole.new w10 9 [.string ⟨#[]⟩, .string ⟨#[48]⟩, .string ⟨#[120]⟩, .string ⟨#[58]⟩, .string ⟨#[53]⟩]) (by omega))); have a1 := HA1.out P hP; have a2 := HA2.out P hP; have hln := HLN.out P hP; obtain ⟨X1, HX1⟩ : ∃ x, Hid (x = T.take k ++ P) := ⟨_, rfl⟩; rw [← HX1.out] at a1 a2 hln; obtain ⟨X2, HX2⟩ : ∃ x, Hid (x = X1 ++ T.drop (k + 1)) := ⟨_, rfl⟩; rw [← HX2.out] at a2 hln)
  all_goals
    go_wp2
    go_ret
    first | exact ⟨X2, rfl, hln, hR10.bw⟩ | exact ⟨X2, rfl, hln, hR10.bw.alloc hR10.bw.size _⟩
theorem num_120 : ∀ n : Nat, n < 100 → (numT n).count 120 = 0 := by decide +kernel
theorem carT_120 {f t r u : Int} (h : carB f t r u = true) : (carT f t r u).count 120 = 2 := by
  have hs := carB_spec h
  have h1 := num_120 f.toNat (by omega)
  have h2 := num_120 t.toNat (by omega)
  have h3 := num_120 r.toNat (by omega)
  have h4 := num_120 u.toNat (by omega)
  unfold carT
  rw [h]
  simp only [if_true, List.count_append, h1, h2, h3, h4]
  decide
theorem ReadAns.past {f t r u f' t' r' u' : Int} {b : Bool} (hv : carB f t r u = true) (h : ReadAns (carT f t r u ++ [120]) f' t' r' u' b) : b = false := by
  rcases h with ⟨rfl, h1, h2⟩ | ⟨rfl, _⟩
  · have a := carT_120 h1
    rw [h2, List.count_append, carT_120 hv] at a
    simp at a
  · rfl

set_option maxRecDepth 100000 in
set_option maxHeartbeats 4000000 in
theorem lawReadCar (A : Option Addr) (n c : Nat) (bs : List Int) (w : World) (m : Int) (hm : w.cell? ⟨0, 0, none⟩ = some (.int .i64 m)) (h0 : 0 < w.heap.size) (hn : n ≤ c ∧ c ≤ 9223372036854775807) (hb : BytesAt w A n bs) :
    Calls Tryd.prog 5 #[.slice A n c] w (RV w (.bool true)) := by
  obtain ⟨hn1, hn2⟩ := hn
  by_cases hbig : 1048576 < n
  · have hd : decide (1048576 < n) = true := by simpa using hbig
    go_enter Tryd.func5, Tryd.ntmps5
    go_wp2
    go_ret
    exact ⟨rfl, Below.refl _ _⟩
  have hd : decide (1048576 < n) = false := by simpa using hbig
  have HB := Lib.hid hb
  have HM := Lib.hid hm
  have H0 := Lib.hid h0
  clear hb hm h0
  go_enter Tryd.func5, Tryd.ntmps5
  go_wp2_with fail
  refine (drawReadCar_any w A n c bs ⟨hn1, hn2⟩ HB.out).mono ?_; rintro e w1 ⟨s, rfl, hsl, hb1⟩
  have hm1 : w1.cell? ⟨0, 0, none⟩ = some (.int .i64 m) := (hb1.cell (p := ⟨0, 0, none⟩) H0.out).trans HM.out
  have h01 : 0 < w1.heap.size := Nat.lt_of_lt_of_le H0.out hb1.size
  have HM1 := Lib.hid hm1
  have H01 := Lib.hid h01
  clear hm1 h01
  go_wp2_with fail
  refine (implReadCar_out s w1 (by omega) m HM1.out H01.out).mono ?_; rintro e w2 ⟨f, t, r, u, b, HA, rfl, hb2⟩
  have hB2 := below_next hb1 hb2
  have hN3 : Whole (w2.alloc (.cells #[.int .i64 f, .int .i64 t, .int .i64 r, .int .i64 u] 23)) w2.heap.size 23 [.int .i64 f, .int .i64 t, .int .i64 r, .int .i64 u] := Whole.new w2 _ _
  have hB3 := hB2.alloc hB2.size (.cells #[.int .i64 f, .int .i64 t, .int .i64 r, .int .i64 u] 23)
  clear hb1 hb2 hB2
  go_wp2_with fail
  refine (specReadCar_out s _ (by omega)).mono ?_; rintro e w4 ⟨f', t', r', u', b', HA', rfl, hb4⟩
  obtain ⟨rfl, rfl, rfl, rfl, rfl⟩ := HA.out.one HA'.out
  have hN4 := hN3.below hb4
  have hB4 := below_next hB3 hb4
  have hlt := hN4.lt
  have hsz2 : w2.heap.size ≠ w4.heap.size := by omega
  clear hN3 hB3 hb4 HA'
  have hN5 := hN4.alloc (.cells #[.int .i64 f, .int .i64 t, .int .i64 r, .int .i64 u] 23)
  have hB5 := hB4.alloc hB4.size (.cells #[.int .i64 f, .int .i64 t, .int .i64 r, .int .i64 u] 23)
  have hc0 := hN4.cell 0
  have hc1 := hN4.cell 1
  have hc2 := hN4.cell 2
  have hc3 := hN4.cell 3
  simp only [List.getElem?_cons_zero, List.getElem?_cons_succ] at hc0 hc1 hc2 hc3
  have hbb : (b == b) = true := by simp
  cases b
  · have hz : f = 0 ∧ t = 0 ∧ r = 0 ∧ u = 0 := by
      rcases HA.out with ⟨h, _⟩ | ⟨_, a1, a2, a3, a4, _⟩
      · cases h
      · exact ⟨a1, a2, a3, a4⟩
    obtain ⟨rfl, rfl, rfl, rfl⟩ := hz
    go_wp2_with fail
    refine (alive_any _).mono ?_; rintro e w6 ⟨rfl, hb6⟩
    have hB6 := below_next hB5 hb6
    go_wp2
    go_ret
    exact ⟨rfl, hB6⟩
  have hv : Hid (carB f t r u = true ∧ carT f t r u = s) := by
    rcases HA.out with ⟨_, h1, h2⟩ | ⟨h, _⟩
    · exact Lib.hid ⟨h1, h2⟩
    · cases h
  obtain ⟨X, HX⟩ : ∃ x : List UInt8, Hid (x = s ++ [120]) := ⟨_, Lib.hid rfl⟩
  have a1 : ∀ w : World, (Op.stringOp .add ⟨s.toArray⟩ ⟨#[120]⟩).run Tryd.prog w = .ok (.string ⟨X.toArray⟩) w := by rw [HX.out]; exact add_lists s [120] (by simp; omega)
  have hXl : X.length ≤ 1048576 := by rw [HX.out]; simp; omega
  have hm5 := (hB5.cell (p := ⟨0, 0, none⟩) H0.out).trans HM.out
  have h05 := Nat.lt_of_lt_of_le H0.out hB5.size
  have HM5 := Lib.hid hm5
  have H05 := Lib.hid h05
  clear hm5 h05
  go_wp2_with fail
  refine (implReadCar_out X _ hXl m HM5.out H05.out).mono ?_; rintro e w6 ⟨f1, t1, r1, u1, b1, HA1, rfl, hb6⟩
  have hb1f : b1 = false := by
    have h := HA1.out
    rw [HX.out, ← hv.out.2] at h
    exact h.past hv.out.1
  subst hb1f
  have hN6 := (hN5.below hb6).alloc (.cells #[.int .i64 f1, .int .i64 t1, .int .i64 r1, .int .i64 u1] 23)
  have hB6 := below_next hB5 hb6
  have hB7 := hB6.alloc hB6.size (.cells #[.int .i64 f1, .int .i64 t1, .int .i64 r1, .int .i64 u1] 23)
  clear hN4 hB4 hN5 hB5 hb6 hc0 hc1 hc2 hc3 a1 hB6
  have hc0 := hN6.cell 0
  have hc1 := hN6.cell 1
  have hc2 := hN6.cell 2
  have hc3 := hN6.cell 3
  simp only [List.getElem?_cons_zero, List.getElem?_cons_succ] at hc0 hc1 hc2 hc3
  go_wp2_with fail
  refine (carValid_any f t r u _).mono ?_; rintro e w8 ⟨rfl, hb8⟩
  rw [hv.out.1]
  have hN8 := hN6.below hb8
  have hB8 := below_next hB7 hb8
  clear hN6 hB7 hb8 hc0 hc1 hc2 hc3
  have hc0 := hN8.cell 0
  have hc1 := hN8.cell 1
  have hc2 := hN8.cell 2
  have hc3 := hN8.cell 3
  simp only [List.getElem?_cons_zero, List.getElem?_cons_succ] at hc0 hc1 hc2 hc3
  go_wp2_with fail
  refine (carText_any f t r u _).mono ?_; rintro e w9 ⟨rfl, hb9⟩
  rw [hv.out.2]
  have hB9 := below_next hB8 hb9
  have hss : (s == s) = true := by simp
  go_wp2
  go_ret
  exact ⟨rfl, hB9⟩
end Go.Proofs.YtecjhomfoakaeaaDoor
