/-
  The law FnNested: of any two nested cars, one fits into every place into which the other one fits.
-/
import Derived.Test.YtpipbkefelcmbaaDoorDrCars
import Derived.Test.YtpipbkefelcmbaaDoorAlive
import Derived.Test.YtpipbkefelcmbaaDoorNest
import Derived.Deep.CutRange
import Derived.BigRegion
namespace Go.Proofs.YtpipbkefelcmbaaDoor
open Go.ChangeShapes Go.WideShapes Go.ChangeAt Go.RowKit

def DrawCs1 (w : World) (e : Ending) (w' : World) : Prop :=
  ∃ (g m d : Nat) (ns : List C4), e = .returned (.slice (some ⟨g, 0, none⟩) m d) ∧ OwnAt w' w.heap.size 24 4 (.slice (some ⟨g, 0, none⟩) m d) m (cc ns) ∧ m ≤ 7 ∧ Below w.heap.size w w'
set_option maxHeartbeats 1000000 in
theorem drawNested_any (w : World) (A : Option Addr) (n c : Nat) (bs : List Int) (hn : n ≤ c ∧ c ≤ 9223372036854775807) (hb : BytesAt w A n bs) :
    Calls Tryd.prog 30 #[.slice A n c] w (DrawCs1 w) := by
  go_enter Tryd.func30, Tryd.ntmps30
  go_wp2_with fail
  refine (open_any w A n c bs hn hb).mono ?_; rintro e w2 ⟨R, A1, n1, c1, bs1, rfl, hR2⟩
  go_wp2_with fail
  refine (l20Cars_any w w2 R A1 n1 c1 bs1 0 9 hR2 (by omega) (by omega) (by omega)).mono ?_; rintro e w3 ⟨g, m, d, ns, rfl, hO, hm, hR3, hf3⟩
  go_wp2
  go_ret
  exact ⟨g, m, d, ns, rfl, hO.base hR2.bw.size, hm, hR3.bw⟩

set_option maxRecDepth 100000 in
set_option maxHeartbeats 2000000 in
theorem lawNested (A : Option Addr) (n c : Nat) (bs : List Int) (w : World) (hn : n ≤ c ∧ c ≤ 9223372036854775807) (hb : BytesAt w A n bs) :
    Calls Tryd.prog 8 #[.slice A n c] w (RV w (.bool true)) := by
  obtain ⟨hn1, hn2⟩ := hn
  by_cases hbig : 1048576 < n
  · have hd : decide (1048576 < n) = true := by simpa using hbig
    go_enter Tryd.func8, Tryd.ntmps8
    go_wp2
    go_ret
    exact ⟨rfl, Below.refl _ _⟩
  have hd : decide (1048576 < n) = false := by simpa using hbig
  have HB := Lib.hid hb
  clear hb
  go_enter Tryd.func8, Tryd.ntmps8
  go_wp2_with fail
  refine (drawNested_any w A n c bs ⟨hn1, hn2⟩ HB.out).mono ?_; rintro e w1 ⟨g, m, d, cs, rfl, hC1, hm, hb1⟩
  clear HB hn1 hn2 hbig hd
  have hmd : m ≤ d ∧ d ≤ 9223372036854775807 := hC1.cap
  go_wp2_with fail
  refine (nested_any _ m d cs w1 hmd hC1.slAt).mono ?_; rintro e w2 ⟨v, rfl, hv, hb2⟩
  have hC2 := hC1.below hb2
  have hB2 := below_next hb1 hb2
  clear hC1 hb1 hb2
  go_wp2_with fail
  refine (specNested_any _ m d cs w2 hmd hC2.slAt).mono ?_; rintro e w3 ⟨v2, rfl, hv2, hb3⟩
  obtain rfl := nestedR_same hv hv2
  have hC3 := hC2.below hb3
  have hB3 := below_next hB2 hb3
  clear hC2 hB2 hb3 hv2
  cases v
  · clear hv
    go_wp2_with fail
    refine (alive_any w3).mono ?_; rintro e w4 ⟨rfl, hb4⟩
    have hB4 := below_next hB3 hb4
    go_wp2
    go_ret
    exact ⟨rfl, hB4⟩
  obtain ⟨hcb, hpair⟩ := hv.1 rfl
  have HCB := Lib.hid hcb
  have HPAIR := Lib.hid hpair
  have HLEN := Lib.hid (CarsAt.len hC3.slAt)
  clear hv hcb hpair
  go_wp2
  go_loopw [5, 6, 7, 8] (fun va _ _ _ wr => ∃ a : Nat, a ≤ m ∧ va = .int .i64 a ∧ Below w3.heap.size w3 wr) (fun a _ _ _ _ => m - (intOf a).toNat)
  case atStart => exact ⟨0, by omega, rfl, Below.refl _ _⟩
  case round =>
    obtain ⟨a, ham, rfl, hbw⟩ := hrel
    by_cases hlt : a < m
    · go_wp2
      go_loopw [6, 7, 8] (fun vb _ _ wq => ∃ b : Nat, b ≤ a ∧ vb = .int .i64 b ∧ Below w3.heap.size w3 wq) (fun b _ _ _ => a - (intOf b).toNat)
      case atStart => exact ⟨0, by omega, rfl, hbw⟩
      case round =>
        obtain ⟨b, hba, rfl, hbq⟩ := hrel
        obtain ⟨w8, rfl⟩ : ∃ w8, w8 = wr := ⟨_, rfl⟩
        by_cases hltb : b < a
        · obtain ⟨x, bx, ox, HX, hex, hgc, c0, c1, c2, c3⟩ := CarsAt.get (hC3.below hbq).slAt hlt
          injection hex with hex; injection hex with e1 e2; subst e1; subst e2
          obtain ⟨y, by_, oy, HY, hey, -, d0, d1, d2, d3⟩ := CarsAt.get (hC3.below hbq).slAt (show b < m by omega)
          injection hey with hey; injection hey with e1 e2; subst e1; subst e2
          simp only [Nat.zero_add] at c0 c1 c2 c3 d0 d1 d2 d3
          have hp := HPAIR.out a (by rw [HLEN.out]; exact hlt) b hltb x y HX.out HY.out
          have hla : (a : Int) < (m : Int) := by omega
          have hlb : (b : Int) < (m : Int) := by omega
          have ha0 : (0 : Int) ≤ (a : Int) := by omega
          have hb0 : (0 : Int) ≤ (b : Int) := by omega
          have HP := Lib.hid hp
          clear HX HY hp hbw
          go_upto_region 15 with fail
          go_region
          have hb9 : Below w8.heap.size w8 ((w8.alloc (.cells #[.int .i64 x.t, .int .i64 x.r, .int .i64 x.u] 26)).drew) := ((Below.refl _ _).alloc (Nat.le_refl _) _).drew
          have hN9 : Whole ((w8.alloc (.cells #[.int .i64 x.t, .int .i64 x.r, .int .i64 x.u] 26)).drew) w8.heap.size 26 [.int .i64 x.t, .int .i64 x.r, .int .i64 x.u] := Whole.drew (Whole.new w8 _ _)
          generalize (w8.alloc (.cells #[.int .i64 x.t, .int .i64 x.r, .int .i64 x.u] 26)).drew = w9 at hb9 hN9 ⊢
          obtain ⟨N, HN⟩ : ∃ N, Hid (N = w8.heap.size) := ⟨_, rfl⟩
          rw [← HN.out] at hN9 ⊢
          replace c0 := (hb9.cell (p := ⟨g, a * 4, none⟩) hgc).trans c0
          replace c1 := (hb9.cell (p := ⟨g, a * 4 + 1, none⟩) hgc).trans c1
          replace c2 := (hb9.cell (p := ⟨g, a * 4 + 2, none⟩) hgc).trans c2
          replace c3 := (hb9.cell (p := ⟨g, a * 4 + 3, none⟩) hgc).trans c3
          replace d0 := (hb9.cell (p := ⟨g, b * 4, none⟩) hgc).trans d0
          replace d1 := (hb9.cell (p := ⟨g, b * 4 + 1, none⟩) hgc).trans d1
          replace d2 := (hb9.cell (p := ⟨g, b * 4 + 2, none⟩) hgc).trans d2
          replace d3 := (hb9.cell (p := ⟨g, b * 4 + 3, none⟩) hgc).trans d3
          have hgc9 : g < w9.heap.size := Nat.lt_of_lt_of_le hgc hb9.size
          have hbq9 := hbq.trans (hb9.mono hbq.size)
          clear hgc hb9 hbq
          go_upto_region 16 with fail
          go_region
          have hb10 : Below w9.heap.size w9 ((w9.alloc (.cells #[.int .i64 y.t, .int .i64 y.r, .int .i64 y.u] 26)).drew) := ((Below.refl _ _).alloc (Nat.le_refl _) _).drew
          have hM10 : Whole ((w9.alloc (.cells #[.int .i64 y.t, .int .i64 y.r, .int .i64 y.u] 26)).drew) w9.heap.size 26 [.int .i64 y.t, .int .i64 y.r, .int .i64 y.u] := Whole.drew (Whole.new w9 _ _)
          have hN10 := hN9.below hb10
          generalize (w9.alloc (.cells #[.int .i64 y.t, .int .i64 y.r, .int .i64 y.u] 26)).drew = w10 at hb10 hN10 hM10 ⊢
          obtain ⟨M, HM⟩ : ∃ M, Hid (M = w9.heap.size) := ⟨_, rfl⟩
          rw [← HM.out] at hM10 ⊢
          replace c0 := (hb10.cell (p := ⟨g, a * 4, none⟩) hgc9).trans c0
          replace c1 := (hb10.cell (p := ⟨g, a * 4 + 1, none⟩) hgc9).trans c1
          replace c2 := (hb10.cell (p := ⟨g, a * 4 + 2, none⟩) hgc9).trans c2
          replace c3 := (hb10.cell (p := ⟨g, a * 4 + 3, none⟩) hgc9).trans c3
          replace d0 := (hb10.cell (p := ⟨g, b * 4, none⟩) hgc9).trans d0
          replace d1 := (hb10.cell (p := ⟨g, b * 4 + 1, none⟩) hgc9).trans d1
          replace d2 := (hb10.cell (p := ⟨g, b * 4 + 2, none⟩) hgc9).trans d2
          replace d3 := (hb10.cell (p := ⟨g, b * 4 + 3, none⟩) hgc9).trans d3
          have hgc10 : g < w10.heap.size := Nat.lt_of_lt_of_le hgc9 hb10.size
          have hbq10 := hbq9.trans (hb10.mono hbq9.size)
          have n0 : w10.cell? ⟨N, 0, none⟩ = some (.int .i64 x.t) := hN10.cell 0
          have n1 : w10.cell? ⟨N, 1, none⟩ = some (.int .i64 x.r) := hN10.cell 1
          have n2 : w10.cell? ⟨N, 2, none⟩ = some (.int .i64 x.u) := hN10.cell 2
          have m0 : w10.cell? ⟨M, 0, none⟩ = some (.int .i64 y.t) := hM10.cell 0
          have m1 : w10.cell? ⟨M, 1, none⟩ = some (.int .i64 y.r) := hM10.cell 1
          have m2 : w10.cell? ⟨M, 2, none⟩ = some (.int .i64 y.u) := hM10.cell 2
          have hNl := hN10.lt
          have hMl := hM10.lt
          clear hgc9 hb10 hbq9 hN9 hN10 hM10
          go_upto_region 17 with fail
          cases hu : fitsB y.t y.r y.u x.t x.r x.u
          · have hu2 : fitsB x.t x.r x.u y.t y.r y.u = true := by
              have h := HP.out
              unfold pairOk at h
              have h1 : under y x = false := hu
              rw [h1, Bool.or_false] at h
              exact h
            refine wp_region_held_drew (S := (fun w' => w'.cell? ⟨g, a * 4, none⟩ = some (.int .i64 x.f) ∧ w'.cell? ⟨g, a * 4 + 1, none⟩ = some (.int .i64 x.t) ∧ w'.cell? ⟨g, a * 4 + 2, none⟩ = some (.int .i64 x.r) ∧ w'.cell? ⟨g, a * 4 + 3, none⟩ = some (.int .i64 x.u) ∧ w'.cell? ⟨g, b * 4, none⟩ = some (.int .i64 y.f) ∧ w'.cell? ⟨g, b * 4 + 1, none⟩ = some (.int .i64 y.t) ∧ w'.cell? ⟨g, b * 4 + 2, none⟩ = some (.int .i64 y.r) ∧ w'.cell? ⟨g, b * 4 + 3, none⟩ = some (.int .i64 y.u) ∧ w'.cell? ⟨N, 0, none⟩ = some (.int .i64 x.t) ∧ w'.cell? ⟨N, 1, none⟩ = some (.int .i64 x.r) ∧ w'.cell? ⟨N, 2, none⟩ = some (.int .i64 x.u) ∧ w'.cell? ⟨M, 0, none⟩ = some (.int .i64 y.t) ∧ w'.cell? ⟨M, 1, none⟩ = some (.int .i64 y.r) ∧ w'.cell? ⟨M, 2, none⟩ = some (.int .i64 y.u))) (by kernel_rfl) ?_ (fun hHeld => ?_)
            · (try dsimp only); first | exact ⟨c0, c1, c2, c3, d0, d1, d2, d3, n0, n1, n2, m0, m1, m2⟩ | exact k8 | exact k9
            refine wpAnyH_take (i := 0) (v := ?vq1_0) (by simp only [List.getElem?_toArray, List.getElem?_cons_zero]; rfl) (by kernel_rfl) (by kernel_rfl) (by kernel_rfl) (by exact fun _ _ _ h => h) (Or.inl ⟨by rfl, ?hq1_0⟩) hHeld ?rq1_0
            case hq1_0 => (intro w hSw; (try dsimp only at hSw); go_simp; (try with_reducible rfl))
            try simp only [put_laws]
            refine wpAnyH_take (i := 1) (v := ?vq1_1) (by simp only [List.getElem?_toArray, List.getElem?_cons_succ, List.getElem?_cons_zero]; rfl) (by kernel_rfl) (by kernel_rfl) (by kernel_rfl) (by exact fun _ _ _ h => h) (Or.inl ⟨by rfl, ?hq1_1⟩) hHeld ?rq1_1
            case hq1_1 => (intro w hSw; (try dsimp only at hSw); go_simp; (try with_reducible rfl))
            try simp only [put_laws]
            refine wpAnyH_take (i := 2) (v := ?vq1_2) (by simp only [List.getElem?_toArray, List.getElem?_cons_succ, List.getElem?_cons_zero]; rfl) (by kernel_rfl) (by kernel_rfl) (by kernel_rfl) (by exact fun _ _ _ h => h) (Or.inl ⟨by rfl, ?hq1_2⟩) hHeld ?rq1_2
            case hq1_2 => (intro w hSw; (try dsimp only at hSw); go_simp; (try with_reducible rfl))
            try simp only [put_laws]
            refine wpAnyH_take (i := 3) (v := ?vq1_3) (by simp only [List.getElem?_toArray, List.getElem?_cons_succ, List.getElem?_cons_zero]; rfl) (by kernel_rfl) (by kernel_rfl) (by kernel_rfl) (by exact fun _ _ _ h => h) (Or.inl ⟨by rfl, ?hq1_3⟩) hHeld ?rq1_3
            case hq1_3 => (intro w hSw; (try dsimp only at hSw); go_simp; (try with_reducible rfl))
            try simp only [put_laws]
            refine wpAnyH_take (i := 4) (v := ?vq1_4) (by simp only [List.getElem?_toArray, List.getElem?_cons_succ, List.getElem?_cons_zero]; rfl) (by kernel_rfl) (by kernel_rfl) (by kernel_rfl) (by exact fun _ _ _ h => h) (Or.inl ⟨by rfl, ?hq1_4⟩) hHeld ?rq1_4
            case hq1_4 => (intro w hSw; (try dsimp only at hSw); go_simp; (try with_reducible rfl))
            try simp only [put_laws]
            refine wpAnyH_ready (rs := [5]) (by kernel_rfl) (by simp) ?_
            refine AllReadyH.cons (by simp only [List.getElem?_toArray, List.getElem?_cons_succ, List.getElem?_cons_zero]; rfl) (fun K hK => ?_) AllReadyH.nil
            go_simp
            refine (fits_any y.f y.t y.r y.u x.t x.r x.u _).mono ?_; rintro e w11 ⟨rfl, hb11⟩; rw [hu]; have k8 := (And.intro ((hb11.cell (p := ⟨g, a * 4, none⟩) hgc10).trans c0) (And.intro ((hb11.cell (p := ⟨g, a * 4 + 1, none⟩) hgc10).trans c1) (And.intro ((hb11.cell (p := ⟨g, a * 4 + 2, none⟩) hgc10).trans c2) (And.intro ((hb11.cell (p := ⟨g, a * 4 + 3, none⟩) hgc10).trans c3) (And.intro ((hb11.cell (p := ⟨g, b * 4, none⟩) hgc10).trans d0) (And.intro ((hb11.cell (p := ⟨g, b * 4 + 1, none⟩) hgc10).trans d1) (And.intro ((hb11.cell (p := ⟨g, b * 4 + 2, none⟩) hgc10).trans d2) (And.intro ((hb11.cell (p := ⟨g, b * 4 + 3, none⟩) hgc10).trans d3) (And.intro ((hb11.cell (p := ⟨N, 0, none⟩) hNl).trans n0) (And.intro ((hb11.cell (p := ⟨N, 1, none⟩) hNl).trans n1) (And.intro ((hb11.cell (p := ⟨N, 2, none⟩) hNl).trans n2) (And.intro ((hb11.cell (p := ⟨M, 0, none⟩) hMl).trans m0) (And.intro ((hb11.cell (p := ⟨M, 1, none⟩) hMl).trans m1) ((hb11.cell (p := ⟨M, 2, none⟩) hMl).trans m2))))))))))))))
            refine hK.out _ _ ?_ (fun hHeld => ?_)
            · (try dsimp only); first | exact ⟨c0, c1, c2, c3, d0, d1, d2, d3, n0, n1, n2, m0, m1, m2⟩ | exact k8 | exact k9
            clear hK K
            try simp only [put_laws]
            refine wpAnyH_take (i := 6) (v := ?vq1_6) (by simp only [List.getElem?_toArray, List.getElem?_cons_succ, List.getElem?_cons_zero]; rfl) (by kernel_rfl) (by kernel_rfl) (by kernel_rfl) (by exact fun _ _ _ h => h) (Or.inl ⟨by rfl, ?hq1_6⟩) hHeld ?rq1_6
            case hq1_6 => (intro w hSw; (try dsimp only at hSw); go_simp; (try with_reducible rfl))
            try simp only [put_laws]
            refine wpAnyH_take (i := 7) (v := ?vq1_7) (by simp only [List.getElem?_toArray, List.getElem?_cons_succ, List.getElem?_cons_zero]; rfl) (by kernel_rfl) (by kernel_rfl) (by kernel_rfl) (by exact fun _ _ _ h => h) (Or.inl ⟨by rfl, ?hq1_7⟩) hHeld ?rq1_7
            case hq1_7 => (intro w hSw; (try dsimp only at hSw); go_simp; (try with_reducible rfl))
            try simp only [put_laws]
            refine wpAnyH_take (i := 8) (v := ?vq1_8) (by simp only [List.getElem?_toArray, List.getElem?_cons_succ, List.getElem?_cons_zero]; rfl) (by kernel_rfl) (by kernel_rfl) (by kernel_rfl) (by exact fun _ _ _ h => h) (Or.inl ⟨by rfl, ?hq1_8⟩) hHeld ?rq1_8
            case hq1_8 => (intro w hSw; (try dsimp only at hSw); go_simp; (try with_reducible rfl))
            try simp only [put_laws]
            refine wpAnyH_take (i := 9) (v := ?vq1_9) (by simp only [List.getElem?_toArray, List.getElem?_cons_succ, List.getElem?_cons_zero]; rfl) (by kernel_rfl) (by kernel_rfl) (by kernel_rfl) (by exact fun _ _ _ h => h) (Or.inl ⟨by rfl, ?hq1_9⟩) hHeld ?rq1_9
            case hq1_9 => (intro w hSw; (try dsimp only at hSw); go_simp; (try with_reducible rfl))
            try simp only [put_laws]
            refine wpAnyH_take (i := 10) (v := ?vq1_10) (by simp only [List.getElem?_toArray, List.getElem?_cons_succ, List.getElem?_cons_zero]; rfl) (by kernel_rfl) (by kernel_rfl) (by kernel_rfl) (by exact fun _ _ _ h => h) (Or.inl ⟨by rfl, ?hq1_10⟩) hHeld ?rq1_10
            case hq1_10 => (intro w hSw; (try dsimp only at hSw); go_simp; (try with_reducible rfl))
            try simp only [put_laws]
            refine wpAnyH_take (i := 11) (v := ?vq1_11) (by simp only [List.getElem?_toArray, List.getElem?_cons_succ, List.getElem?_cons_zero]; rfl) (by kernel_rfl) (by kernel_rfl) (by kernel_rfl) (by exact fun _ _ _ h => h) (Or.inl ⟨by rfl, ?hq1_11⟩) hHeld ?rq1_11
            case hq1_11 => (intro w hSw; (try dsimp only at hSw); go_simp; (try with_reducible rfl))
            try simp only [put_laws]
            refine wpAnyH_take (i := 12) (v := ?vq1_12) (by simp only [List.getElem?_toArray, List.getElem?_cons_succ, List.getElem?_cons_zero]; rfl) (by kernel_rfl) (by kernel_rfl) (by kernel_rfl) (by exact fun _ _ _ h => h) (Or.inl ⟨by rfl, ?hq1_12⟩) hHeld ?rq1_12
            case hq1_12 => (intro w hSw; (try dsimp only at hSw); go_simp; (try with_reducible rfl))
            try simp only [put_laws]
            refine wpAnyH_ready (rs := [13]) (by kernel_rfl) (by simp) ?_
            refine AllReadyH.cons (by simp only [List.getElem?_toArray, List.getElem?_cons_succ, List.getElem?_cons_zero]; rfl) (fun K hK => ?_) AllReadyH.nil
            go_simp
            refine (fits_any x.f x.t x.r x.u y.t y.r y.u _).mono ?_; rintro e w12 ⟨rfl, hb12⟩; rw [hu2]; have k9 := (And.intro ((hb12.cell (p := ⟨g, a * 4, none⟩) (Nat.lt_of_lt_of_le hgc10 hb11.size)).trans ((hb11.cell (p := ⟨g, a * 4, none⟩) hgc10).trans c0)) (And.intro ((hb12.cell (p := ⟨g, a * 4 + 1, none⟩) (Nat.lt_of_lt_of_le hgc10 hb11.size)).trans ((hb11.cell (p := ⟨g, a * 4 + 1, none⟩) hgc10).trans c1)) (And.intro ((hb12.cell (p := ⟨g, a * 4 + 2, none⟩) (Nat.lt_of_lt_of_le hgc10 hb11.size)).trans ((hb11.cell (p := ⟨g, a * 4 + 2, none⟩) hgc10).trans c2)) (And.intro ((hb12.cell (p := ⟨g, a * 4 + 3, none⟩) (Nat.lt_of_lt_of_le hgc10 hb11.size)).trans ((hb11.cell (p := ⟨g, a * 4 + 3, none⟩) hgc10).trans c3)) (And.intro ((hb12.cell (p := ⟨g, b * 4, none⟩) (Nat.lt_of_lt_of_le hgc10 hb11.size)).trans ((hb11.cell (p := ⟨g, b * 4, none⟩) hgc10).trans d0)) (And.intro ((hb12.cell (p := ⟨g, b * 4 + 1, none⟩) (Nat.lt_of_lt_of_le hgc10 hb11.size)).trans ((hb11.cell (p := ⟨g, b * 4 + 1, none⟩) hgc10).trans d1)) (And.intro ((hb12.cell (p := ⟨g, b * 4 + 2, none⟩) (Nat.lt_of_lt_of_le hgc10 hb11.size)).trans ((hb11.cell (p := ⟨g, b * 4 + 2, none⟩) hgc10).trans d2)) (And.intro ((hb12.cell (p := ⟨g, b * 4 + 3, none⟩) (Nat.lt_of_lt_of_le hgc10 hb11.size)).trans ((hb11.cell (p := ⟨g, b * 4 + 3, none⟩) hgc10).trans d3)) (And.intro ((hb12.cell (p := ⟨N, 0, none⟩) (Nat.lt_of_lt_of_le hNl hb11.size)).trans ((hb11.cell (p := ⟨N, 0, none⟩) hNl).trans n0)) (And.intro ((hb12.cell (p := ⟨N, 1, none⟩) (Nat.lt_of_lt_of_le hNl hb11.size)).trans ((hb11.cell (p := ⟨N, 1, none⟩) hNl).trans n1)) (And.intro ((hb12.cell (p := ⟨N, 2, none⟩) (Nat.lt_of_lt_of_le hNl hb11.size)).trans ((hb11.cell (p := ⟨N, 2, none⟩) hNl).trans n2)) (And.intro ((hb12.cell (p := ⟨M, 0, none⟩) (Nat.lt_of_lt_of_le hMl hb11.size)).trans ((hb11.cell (p := ⟨M, 0, none⟩) hMl).trans m0)) (And.intro ((hb12.cell (p := ⟨M, 1, none⟩) (Nat.lt_of_lt_of_le hMl hb11.size)).trans ((hb11.cell (p := ⟨M, 1, none⟩) hMl).trans m1)) ((hb12.cell (p := ⟨M, 2, none⟩) (Nat.lt_of_lt_of_le hMl hb11.size)).trans ((hb11.cell (p := ⟨M, 2, none⟩) hMl).trans m2)))))))))))))))
            refine hK.out _ _ ?_ (fun hHeld => ?_)
            · (try dsimp only); first | exact ⟨c0, c1, c2, c3, d0, d1, d2, d3, n0, n1, n2, m0, m1, m2⟩ | exact k8 | exact k9
            clear hK K
            try simp only [put_laws]
            refine wpAnyH_take (i := 14) (v := ?vq1_14) (by simp only [List.getElem?_toArray, List.getElem?_cons_succ, List.getElem?_cons_zero]; rfl) (by kernel_rfl) (by kernel_rfl) (by kernel_rfl) (by exact fun _ _ _ h => h) (Or.inl ⟨by rfl, ?hq1_14⟩) hHeld ?rq1_14
            case hq1_14 => (intro w hSw; (try dsimp only at hSw); go_simp; (try with_reducible rfl))
            try simp only [put_laws]
            refine wpAnyH_take (i := 15) (v := ?vq1_15) (by simp only [List.getElem?_toArray, List.getElem?_cons_succ, List.getElem?_cons_zero]; rfl) (by kernel_rfl) (by kernel_rfl) (by kernel_rfl) (by exact fun _ _ _ h => h) (Or.inl ⟨by rfl, ?hq1_15⟩) hHeld ?rq1_15
            case hq1_15 => (intro w hSw; (try dsimp only at hSw); go_simp; (try with_reducible rfl))
            try simp only [put_laws]
            refine wpAnyH_done (by kernel_rfl) ?_ _
            have hbn : Below w3.heap.size w3 w12 := hbq10.trans (((((Below.refl w10.heap.size w10).drew).trans (hb11.mono (Nat.le_refl _))).trans (hb12.mono hb11.size)).mono hbq10.size)
            clear k8 k9 hu hu2
            clear hHeld c0 c1 c2 c3 d0 d1 d2 d3 n0 n1 n2 m0 m1 m2
            go_wp2
            go_roundw
            case rel => exact ⟨b + 1, by omega, by go_num, hbn⟩
            case measure => simp [intOf]; omega
          · skip
            refine wp_region_held_drew (S := (fun w' => w'.cell? ⟨g, b * 4, none⟩ = some (.int .i64 y.f) ∧ w'.cell? ⟨g, b * 4 + 1, none⟩ = some (.int .i64 y.t) ∧ w'.cell? ⟨g, b * 4 + 2, none⟩ = some (.int .i64 y.r) ∧ w'.cell? ⟨g, b * 4 + 3, none⟩ = some (.int .i64 y.u) ∧ w'.cell? ⟨N, 0, none⟩ = some (.int .i64 x.t) ∧ w'.cell? ⟨N, 1, none⟩ = some (.int .i64 x.r) ∧ w'.cell? ⟨N, 2, none⟩ = some (.int .i64 x.u))) (by kernel_rfl) ?_ (fun hHeld => ?_)
            · (try dsimp only); first | exact ⟨d0, d1, d2, d3, n0, n1, n2⟩ | exact k8
            refine wpAnyH_take (i := 0) (v := ?vq2_0) (by simp only [List.getElem?_toArray, List.getElem?_cons_zero]; rfl) (by kernel_rfl) (by kernel_rfl) (by kernel_rfl) (by exact fun _ _ _ h => h) (Or.inl ⟨by rfl, ?hq2_0⟩) hHeld ?rq2_0
            case hq2_0 => (intro w hSw; (try dsimp only at hSw); go_simp; (try with_reducible rfl))
            try simp only [put_laws]
            refine wpAnyH_take (i := 1) (v := ?vq2_1) (by simp only [List.getElem?_toArray, List.getElem?_cons_succ, List.getElem?_cons_zero]; rfl) (by kernel_rfl) (by kernel_rfl) (by kernel_rfl) (by exact fun _ _ _ h => h) (Or.inl ⟨by rfl, ?hq2_1⟩) hHeld ?rq2_1
            case hq2_1 => (intro w hSw; (try dsimp only at hSw); go_simp; (try with_reducible rfl))
            try simp only [put_laws]
            refine wpAnyH_take (i := 2) (v := ?vq2_2) (by simp only [List.getElem?_toArray, List.getElem?_cons_succ, List.getElem?_cons_zero]; rfl) (by kernel_rfl) (by kernel_rfl) (by kernel_rfl) (by exact fun _ _ _ h => h) (Or.inl ⟨by rfl, ?hq2_2⟩) hHeld ?rq2_2
            case hq2_2 => (intro w hSw; (try dsimp only at hSw); go_simp; (try with_reducible rfl))
            try simp only [put_laws]
            refine wpAnyH_take (i := 3) (v := ?vq2_3) (by simp only [List.getElem?_toArray, List.getElem?_cons_succ, List.getElem?_cons_zero]; rfl) (by kernel_rfl) (by kernel_rfl) (by kernel_rfl) (by exact fun _ _ _ h => h) (Or.inl ⟨by rfl, ?hq2_3⟩) hHeld ?rq2_3
            case hq2_3 => (intro w hSw; (try dsimp only at hSw); go_simp; (try with_reducible rfl))
            try simp only [put_laws]
            refine wpAnyH_take (i := 4) (v := ?vq2_4) (by simp only [List.getElem?_toArray, List.getElem?_cons_succ, List.getElem?_cons_zero]; rfl) (by kernel_rfl) (by kernel_rfl) (by kernel_rfl) (by exact fun _ _ _ h => h) (Or.inl ⟨by rfl, ?hq2_4⟩) hHeld ?rq2_4
            case hq2_4 => (intro w hSw; (try dsimp only at hSw); go_simp; (try with_reducible rfl))
            try simp only [put_laws]
            refine wpAnyH_ready (rs := [5]) (by kernel_rfl) (by simp) ?_
            refine AllReadyH.cons (by simp only [List.getElem?_toArray, List.getElem?_cons_succ, List.getElem?_cons_zero]; rfl) (fun K hK => ?_) AllReadyH.nil
            go_simp
            refine (fits_any y.f y.t y.r y.u x.t x.r x.u _).mono ?_; rintro e w11 ⟨rfl, hb11⟩; rw [hu]; have k8 := (And.intro ((hb11.cell (p := ⟨g, b * 4, none⟩) hgc10).trans d0) (And.intro ((hb11.cell (p := ⟨g, b * 4 + 1, none⟩) hgc10).trans d1) (And.intro ((hb11.cell (p := ⟨g, b * 4 + 2, none⟩) hgc10).trans d2) (And.intro ((hb11.cell (p := ⟨g, b * 4 + 3, none⟩) hgc10).trans d3) (And.intro ((hb11.cell (p := ⟨N, 0, none⟩) hNl).trans n0) (And.intro ((hb11.cell (p := ⟨N, 1, none⟩) hNl).trans n1) ((hb11.cell (p := ⟨N, 2, none⟩) hNl).trans n2)))))))
            refine hK.out _ _ ?_ (fun hHeld => ?_)
            · (try dsimp only); first | exact ⟨d0, d1, d2, d3, n0, n1, n2⟩ | exact k8
            clear hK K
            try simp only [put_laws]
            refine wpAnyH_take (i := 6) (v := ?vq2_6) (by simp only [List.getElem?_toArray, List.getElem?_cons_succ, List.getElem?_cons_zero]; rfl) (by kernel_rfl) (by kernel_rfl) (by kernel_rfl) (by exact fun _ _ _ h => h) (Or.inl ⟨by rfl, ?hq2_6⟩) hHeld ?rq2_6
            case hq2_6 => (intro w hSw; (try dsimp only at hSw); go_simp; (try with_reducible rfl))
            try simp only [put_laws]
            refine wpAnyH_take (i := 7) (v := ?vq2_7) (by simp only [List.getElem?_toArray, List.getElem?_cons_succ, List.getElem?_cons_zero]; rfl) (by kernel_rfl) (by kernel_rfl) (by kernel_rfl) (by exact fun _ _ _ h => h) (Or.inl ⟨by rfl, ?hq2_7⟩) hHeld ?rq2_7
            case hq2_7 => (intro w hSw; (try dsimp only at hSw); go_simp; (try with_reducible rfl))
            try simp only [put_laws]
            refine wpAnyH_take (i := 8) (v := undef) (by simp only [List.getElem?_toArray, List.getElem?_cons_succ, List.getElem?_cons_zero]; rfl) (by kernel_rfl) (by kernel_rfl) (by kernel_rfl) (by exact fun _ _ _ h => h) (Or.inr ⟨by rfl, rfl⟩) hHeld ?_
            try simp only [put_laws]
            refine wpAnyH_take (i := 9) (v := undef) (by simp only [List.getElem?_toArray, List.getElem?_cons_succ, List.getElem?_cons_zero]; rfl) (by kernel_rfl) (by kernel_rfl) (by kernel_rfl) (by exact fun _ _ _ h => h) (Or.inr ⟨by rfl, rfl⟩) hHeld ?_
            try simp only [put_laws]
            refine wpAnyH_take (i := 10) (v := undef) (by simp only [List.getElem?_toArray, List.getElem?_cons_succ, List.getElem?_cons_zero]; rfl) (by kernel_rfl) (by kernel_rfl) (by kernel_rfl) (by exact fun _ _ _ h => h) (Or.inr ⟨by rfl, rfl⟩) hHeld ?_
            try simp only [put_laws]
            refine wpAnyH_take (i := 11) (v := undef) (by simp only [List.getElem?_toArray, List.getElem?_cons_succ, List.getElem?_cons_zero]; rfl) (by kernel_rfl) (by kernel_rfl) (by kernel_rfl) (by exact fun _ _ _ h => h) (Or.inr ⟨by rfl, rfl⟩) hHeld ?_
            try simp only [put_laws]
            refine wpAnyH_take (i := 12) (v := undef) (by simp only [List.getElem?_toArray, List.getElem?_cons_succ, List.getElem?_cons_zero]; rfl) (by kernel_rfl) (by kernel_rfl) (by kernel_rfl) (by exact fun _ _ _ h => h) (Or.inr ⟨by rfl, rfl⟩) hHeld ?_
            try simp only [put_laws]
            refine wpAnyH_take (i := 13) (v := undef) (by simp only [List.getElem?_toArray, List.getElem?_cons_succ, List.getElem?_cons_zero]; rfl) (by kernel_rfl) (by kernel_rfl) (by kernel_rfl) (by exact fun _ _ _ h => h) (Or.inr ⟨by rfl, rfl⟩) hHeld ?_
            try simp only [put_laws]
            refine wpAnyH_take (i := 14) (v := undef) (by simp only [List.getElem?_toArray, List.getElem?_cons_succ, List.getElem?_cons_zero]; rfl) (by kernel_rfl) (by kernel_rfl) (by kernel_rfl) (by exact fun _ _ _ h => h) (Or.inr ⟨by rfl, rfl⟩) hHeld ?_
            try simp only [put_laws]
            refine wpAnyH_take (i := 15) (v := ?vq2_15) (by simp only [List.getElem?_toArray, List.getElem?_cons_succ, List.getElem?_cons_zero]; rfl) (by kernel_rfl) (by kernel_rfl) (by kernel_rfl) (by exact fun _ _ _ h => h) (Or.inl ⟨by rfl, ?hq2_15⟩) hHeld ?rq2_15
            case hq2_15 => (intro w hSw; (try dsimp only at hSw); go_simp; (try with_reducible rfl))
            try simp only [put_laws]
            refine wpAnyH_done (by kernel_rfl) ?_ _
            have hbn : Below w3.heap.size w3 w11 := hbq10.trans ((((Below.refl w10.heap.size w10).drew).trans (hb11.mono (Nat.le_refl _))).mono hbq10.size)
            clear k8 hu
            clear hHeld c0 c1 c2 c3 d0 d1 d2 d3 n0 n1 n2 m0 m1 m2
            go_wp2
            go_roundw
            case rel => exact ⟨b + 1, by omega, by go_num, hbn⟩
            case measure => simp [intOf]; omega
        · go_wp2
          go_roundw
          case rel => exact ⟨a + 1, by omega, by go_num, hbq⟩
          case measure => simp [intOf]; omega
    · go_wp2_with fail
      refine (carsValid_any _ m d cs wr hmd (hC3.below hbw).slAt).mono ?_; rintro e w8 ⟨rfl, hb8⟩
      rw [HCB.out]
      have hB8 := below_next (below_next hB3 hbw) hb8
      go_wp2
      go_ret
      exact ⟨rfl, hB8⟩
end Go.Proofs.YtpipbkefelcmbaaDoor
