/-
  The law FnCarsValid: without the first one valid cars are valid; with the first one twice they are not.
-/
import Derived.Test.YtpipbkefelcmbaaDoorDrCars
import Derived.Test.YtpipbkefelcmbaaDoorWpC
import Derived.Deep.CutRange
import Derived.Deep.RegionHeld
import Derived.Test.YtpipbkefelcmbaaDoorAlive
namespace Go.Proofs.YtpipbkefelcmbaaDoor
open Go.ChangeShapes Go.WideShapes Go.ChangeAt Go.RowKit

def DrawCsR (w : World) (e : Ending) (w' : World) : Prop :=
  ∃ (g m d : Nat) (ns : List C4), e = .returned (.slice (some ⟨g, 0, none⟩) m d) ∧ OwnAt w' w.heap.size 24 4 (.slice (some ⟨g, 0, none⟩) m d) m (cc ns) ∧ m ≤ 7 ∧ Below w.heap.size w w'
set_option maxHeartbeats 1000000 in
theorem drawCarsValid_any (w : World) (A : Option Addr) (n c : Nat) (bs : List Int) (hn : n ≤ c ∧ c ≤ 9223372036854775807) (hb : BytesAt w A n bs) :
    Calls Tryd.prog 21 #[.slice A n c] w (DrawCsR w) := by
  go_enter Tryd.func21, Tryd.ntmps21
  go_wp2_with fail
  refine (open_any w A n c bs hn hb).mono ?_; rintro e w2 ⟨R, A1, n1, c1, bs1, rfl, hR2⟩
  go_wp2_with fail
  refine (l20Cars_any w w2 R A1 n1 c1 bs1 0 2 hR2 (by omega) (by omega) (by omega)).mono ?_; rintro e w3 ⟨g, m, d, ns, rfl, hO, hm, hR3, hf3⟩
  go_wp2
  go_ret
  exact ⟨g, m, d, ns, rfl, hO.base hR2.bw.size, hm, hR3.bw⟩

theorem carsB_tail {ns : List C4} (h : carsB ns = true) : carsB (ns.drop 1) = true := by
  cases ns with
  | nil => exact h
  | cons x xs =>
    simp only [carsB, decide_eq_true_eq, List.drop_succ_cons, List.drop_zero] at h ⊢
    obtain ⟨h1, h2, h3⟩ := h
    refine ⟨by simp at h1; omega, fun c hc => h2 c (by simp [hc]), fun a ha i hi => ?_⟩
    have := h3 (a + 1) (by simp; omega) (i + 1) (by omega)
    simpa [ids] using this
theorem carsB_again (x : C4) (xs : List C4) : carsB ((x :: xs) ++ [x]) = false :=
  carsB_twice (k := xs.length + 1) (j := 0) rfl (by simp) (by omega) (by simp [ids])

theorem cars_cut4 {w : World} {g m : Nat} {ns : List C4} (h : CarsAt w (some ⟨g, 0, none⟩) m ns) : CarsAt w (some ⟨g, 4, none⟩) (m - 1) (ns.drop 1) := by
  refine ⟨by simp [cc, h.len], fun j r hr => ?_⟩
  have hr2 : (cc ns)[j + 1]? = some r := by
    unfold cc at hr ⊢
    rw [List.map_drop, List.getElem?_drop] at hr
    rw [Nat.add_comm]; exact hr
  obtain ⟨b, off, hA, hlt, hl, hc⟩ := SlAt.row h (j + 1) r hr2
  injection hA with hA; injection hA with e1 e2; subst e1; subst e2
  refine ⟨g, 4, rfl, hlt, hl, fun i v hv => ?_⟩
  have h1 := hc i v hv
  have e : 0 + (j + 1) * 4 + i = 4 + j * 4 + i := by omega
  rw [e] at h1; exact h1
theorem cars_cut0 {w : World} {A B : Option Addr} {m : Nat} {ns : List C4} (h : CarsAt w A m ns) (hm : m ≤ 1) : CarsAt w B (m - 1) (ns.drop 1) := by
  have h0 : m - 1 = 0 := by omega
  have h1 : ns.drop 1 = [] := List.drop_eq_nil_of_le (by have := h.len; omega)
  rw [h0, h1]; exact SlAt.nil _ _ _





/-- Here the law begins. -/
def keepS (g : Nat) (x : C4) (w' : World) : Prop := w'.cell? ⟨g, 0, none⟩ = some (.int .i64 x.f) ∧ w'.cell? ⟨g, 1, none⟩ = some (.int .i64 x.t) ∧ w'.cell? ⟨g, 2, none⟩ = some (.int .i64 x.r) ∧ w'.cell? ⟨g, 3, none⟩ = some (.int .i64 x.u)
set_option maxRecDepth 100000 in
set_option maxHeartbeats 2000000 in
theorem lawCarsValid (A : Option Addr) (n c : Nat) (bs : List Int) (w : World) (hn : n ≤ c ∧ c ≤ 9223372036854775807) (hb : BytesAt w A n bs) :
    Calls Tryd.prog 6 #[.slice A n c] w (RV w (.bool true)) := by
  obtain ⟨hn1, hn2⟩ := hn
  by_cases hbig : 1048576 < n
  · have hd : decide (1048576 < n) = true := by simpa using hbig
    go_enter Tryd.func6, Tryd.ntmps6
    go_wp2
    go_ret
    exact ⟨rfl, Below.refl _ _⟩
  have hd : decide (1048576 < n) = false := by simpa using hbig
  have HB := Lib.hid hb
  clear hb
  go_enter Tryd.func6, Tryd.ntmps6
  go_wp2_with fail
  refine (drawCarsValid_any w A n c bs ⟨hn1, hn2⟩ HB.out).mono ?_; rintro e w1 ⟨g, m, d, ns, rfl, hO1, hm, hb1⟩
  clear HB hn1 hn2 hbig hd
  have hmd : m ≤ d ∧ d ≤ 9223372036854775807 := hO1.cap
  go_wp2_with fail
  refine (carsValid_any _ m d ns w1 hmd hO1.slAt).mono ?_; rintro e w2 ⟨rfl, hb2⟩
  have hO2 := hO1.below hb2
  have hB2 := below_next hb1 hb2
  clear hO1 hb1 hb2
  go_wp2_with fail
  refine (specCarsValid_any _ m d ns w2 hmd hO2.slAt).mono ?_; rintro e w3 ⟨rfl, hb3⟩
  have hO3 := hO2.below hb3
  have hB3 := below_next hB2 hb3
  clear hO2 hB2 hb3
  have hsame : (carsB ns == carsB ns) = true := by simp
  have HLN := Lib.hid (CarsAt.len hO3.slAt)
  cases hv : carsB ns
  · clear hv hsame
    go_wp2_with fail
    refine (carsValid_any none 0 0 [] w3 (by omega) (SlAt.nil _ _ _)).mono ?_; rintro e w4 ⟨rfl, hb4⟩
    rw [show carsB [] = true from rfl]
    have hB4 := below_next hB3 hb4
    go_wp2_with fail
    refine (alive_any w4).mono ?_; rintro e w5 ⟨rfl, hb5⟩
    have hB5 := below_next hB4 hb5
    go_wp2
    go_ret
    exact ⟨rfl, hB5⟩
  have HV := Lib.hid hv
  clear hv hsame
  by_cases hm0 : m = 0
  · subst hm0
    go_wp2_with fail
    refine (carsValid_any none 0 0 [] w3 (by omega) (SlAt.nil _ _ _)).mono ?_; rintro e w4 ⟨rfl, hb4⟩
    rw [show carsB [] = true from rfl]
    have hB4 := below_next hB3 hb4
    go_wp2_with fail
    refine (alive_any w4).mono ?_; rintro e w5 ⟨rfl, hb5⟩
    have hB5 := below_next hB4 hb5
    go_wp2
    go_ret
    exact ⟨rfl, hB5⟩
  have hmb : ((m : Int) == 0) = false := by simp; omega
  obtain ⟨x, bx, ox, HX, hex, hgl3, c0, c1, c2, c3⟩ := CarsAt.get hO3.slAt (show 0 < m by omega)
  injection hex with hex; injection hex with e1 e2; subst e1; subst e2
  simp only [Nat.zero_add, Nat.zero_mul] at c0 c1 c2 c3
  have hagain : carsB (ns ++ [x]) = false := by
    have hx := HX.out
    cases ns with
    | nil => simp at hx
    | cons y ys => simp at hx; subst hx; exact carsB_again y ys
  have HAG := Lib.hid hagain
  clear hagain HX
  have hm1 : (1 : Int) ≤ (m : Int) := by omega
  have hm2 : (0 : Int) < (m : Int) := by omega
  have hmp : 0 < m := by omega
  have hbs : ∀ w : World, (Instr.buildSlice 37 0 #[]).run Tryd.prog w = .ok (.slice (some ⟨w.heap.size, 0, none⟩) 0 0) (w.alloc (.cells #[] 24)) := fun _ => by kernel_rfl
  go_upto_region 9 with fail
  have hlen1 : (ns ++ [x]).length = m + 1 := by rw [List.length_append, HLN.out]; rfl
  have HL1 := Lib.hid hlen1
  clear hlen1
  by_cases hd1 : d = 1
  · obtain rfl : m = 1 := by omega
    subst hd1
    refine wp_region_held_drew (S := fun w' => w'.cell? ⟨g, 0, none⟩ = some (.int .i64 x.f) ∧ w'.cell? ⟨g, 1, none⟩ = some (.int .i64 x.t) ∧ w'.cell? ⟨g, 2, none⟩ = some (.int .i64 x.r) ∧ w'.cell? ⟨g, 3, none⟩ = some (.int .i64 x.u)) (by kernel_rfl) ?_ (fun hHeld => ?_)
    · (try dsimp only); exact ⟨c0, c1, c2, c3⟩
    refine wpAnyH_take (i := 0) (v := ?vz1_0) (by simp only [List.getElem?_toArray, List.getElem?_cons_zero]; rfl) (by kernel_rfl) (by kernel_rfl) (by kernel_rfl) (by exact fun _ _ _ h => h) (Or.inl ⟨by rfl, ?hz1_0⟩) hHeld ?rz1_0
    case hz1_0 => (intro w hSw; (try dsimp only at hSw); go_simp; (try with_reducible rfl))
    try simp only [put_laws]
    refine wpAnyH_take (i := 1) (v := ?vz2_1) (by simp only [List.getElem?_toArray, List.getElem?_cons_succ, List.getElem?_cons_zero]; rfl) (by kernel_rfl) (by kernel_rfl) (by kernel_rfl) (by exact fun _ _ _ h => h) (Or.inl ⟨by rfl, ?hz2_1⟩) hHeld ?rz2_1
    case hz2_1 => (intro w hSw; (try dsimp only at hSw); go_simp; (try with_reducible rfl))
    try simp only [put_laws]
    refine wpAnyH_ready (rs := [2]) (by kernel_rfl) (by simp) ?_
    refine AllReadyH.cons (by simp only [List.getElem?_toArray, List.getElem?_cons_succ, List.getElem?_cons_zero]; rfl) (fun K hK => ?_) AllReadyH.nil
    go_simp
    have hnil : ns.drop 1 = [] := List.drop_eq_nil_of_le (by have := HLN.out; omega)
    refine (carsValid_any _ 0 0 (ns.drop 1) _ (by omega) (by rw [hnil]; exact SlAt.nil _ _ _)).mono ?_; rintro e w4 ⟨rfl, hb4⟩; rw [carsB_tail HV.out]
    have e0 : w4.cell? ⟨g, 0, none⟩ = some (.int .i64 x.f) := (hb4.cell (p := ⟨g, 0, none⟩) hgl3).trans c0
    have e1 : w4.cell? ⟨g, 1, none⟩ = some (.int .i64 x.t) := (hb4.cell (p := ⟨g, 1, none⟩) hgl3).trans c1
    have e2 : w4.cell? ⟨g, 2, none⟩ = some (.int .i64 x.r) := (hb4.cell (p := ⟨g, 2, none⟩) hgl3).trans c2
    have e3 : w4.cell? ⟨g, 3, none⟩ = some (.int .i64 x.u) := (hb4.cell (p := ⟨g, 3, none⟩) hgl3).trans c3
    have hgl : g < w4.heap.size := Nat.lt_of_lt_of_le hgl3 hb4.size
    have hO4 := (hO3.below (Below.refl _ _).drew).below hb4
    have hB4 : Below w.heap.size w w4 := hB3.trans ((((Below.refl w3.heap.size w3).drew).trans (hb4.mono (Nat.le_refl _))).mono hB3.size)
    have h44 : Below w4.heap.size w4 w4 := Below.refl _ _
    refine hK.out _ _ ?_ (fun hHeld => ?_)
    · (try dsimp only); exact ⟨e0, e1, e2, e3⟩
    clear hK K
    try simp only [put_laws]
    clear hb4 hO3 hB3 c0 c1 c2 c3 hgl3
    refine wpAnyH_take (i := 3) (v := ?vz3_3) (by simp only [List.getElem?_toArray, List.getElem?_cons_succ, List.getElem?_cons_zero]; rfl) (by kernel_rfl) (by kernel_rfl) (by kernel_rfl) (by exact fun _ _ _ h => h) (Or.inl ⟨by rfl, ?hz3_3⟩) hHeld ?rz3_3
    case hz3_3 => (intro w hSw; (try dsimp only at hSw); go_simp; (try with_reducible rfl))
    try simp only [put_laws]
    refine wpAnyH_take (i := 5) (v := ?vz4_5) (by simp only [List.getElem?_toArray, List.getElem?_cons_succ, List.getElem?_cons_zero]; rfl) (by kernel_rfl) (by kernel_rfl) (by kernel_rfl) (by exact fun _ _ _ h => h) (Or.inl ⟨by rfl, ?hz4_5⟩) hHeld ?rz4_5
    case hz4_5 => (intro w hSw; (try dsimp only at hSw); go_simp; (try with_reducible rfl))
    try simp only [put_laws]
    refine wpAnyH_take (i := 7) (v := ?vz5_7) (by simp only [List.getElem?_toArray, List.getElem?_cons_succ, List.getElem?_cons_zero]; rfl) (by kernel_rfl) (by kernel_rfl) (by kernel_rfl) (by exact fun _ _ _ h => h) (Or.inl ⟨by rfl, ?hz5_7⟩) hHeld ?rz5_7
    case hz5_7 => (intro w hSw; (try dsimp only at hSw); go_simp; (try with_reducible rfl))
    try simp only [put_laws]
    refine wpAnyH_take (i := 8) (v := ?vz6_8) (by simp only [List.getElem?_toArray, List.getElem?_cons_succ, List.getElem?_cons_zero]; rfl) (by kernel_rfl) (by kernel_rfl) (by kernel_rfl) (by exact fun _ _ _ h => h) (Or.inl ⟨by rfl, ?hz6_8⟩) hHeld ?rz6_8
    case hz6_8 => (intro w hSw; (try dsimp only at hSw); go_simp; (try with_reducible rfl))
    try simp only [put_laws]
    refine wpAnyH_take (i := 9) (v := ?vz7_9) (by simp only [List.getElem?_toArray, List.getElem?_cons_succ, List.getElem?_cons_zero]; rfl) (by kernel_rfl) (by kernel_rfl) (by kernel_rfl) (by exact fun _ _ _ h => h) (Or.inl ⟨by rfl, ?hz7_9⟩) hHeld ?rz7_9
    case hz7_9 => (intro w hSw; (try dsimp only at hSw); go_simp; (try with_reducible rfl))
    try simp only [put_laws]
    refine wpAnyH_ready (rs := [4, 10]) (by kernel_rfl) (by simp) ?_
    refine AllReadyH.cons (by simp only [List.getElem?_toArray, List.getElem?_cons_succ, List.getElem?_cons_zero]; rfl) (fun K hK => ?_) (AllReadyH.cons (by simp only [List.getElem?_toArray, List.getElem?_cons_succ, List.getElem?_cons_zero]; rfl) (fun K hK => ?_) AllReadyH.nil)
    · skip
      go_simp
      have hE := ownC0 (w1 := w4) (h44).size
      have hBE := (h44).alloc (h44).size (.cells #[] 24)
      refine hK.out _ _ ?_ (fun hHeld => ?_)
      · (try dsimp only); exact ⟨(hBE.cell (p := ⟨g, 0, none⟩) hgl).trans e0, (hBE.cell (p := ⟨g, 1, none⟩) hgl).trans e1, (hBE.cell (p := ⟨g, 2, none⟩) hgl).trans e2, (hBE.cell (p := ⟨g, 3, none⟩) hgl).trans e3⟩
      clear hK K
      try simp only [put_laws]
      refine wpAnyH_ready (rs := [6, 10]) (by kernel_rfl) (by simp) ?_
      refine AllReadyH.cons (by simp only [List.getElem?_toArray, List.getElem?_cons_succ, List.getElem?_cons_zero]; rfl) (fun K hK => ?_) (AllReadyH.cons (by simp only [List.getElem?_toArray, List.getElem?_cons_succ, List.getElem?_cons_zero]; rfl) (fun K hK => ?_) AllReadyH.nil)
      · skip
        rw [if_pos (by rfl)]
        refine wp_copyC (.tmp 31) (.tmp 32) rfl hE (hBE).size (hO4.below (hBE)) rfl rfl (by omega) ?_; intro v6 w6 hO6 hgr6
        have hB6 := (hBE).grown hgr6 (hBE).size (fun k hk => by injection hk with hk; subst hk; exact (ownV_far hE).1)
        refine hK.out _ _ ?_ (fun hHeld => ?_)
        · (try dsimp only); exact ⟨(hB6.cell (p := ⟨g, 0, none⟩) hgl).trans e0, (hB6.cell (p := ⟨g, 1, none⟩) hgl).trans e1, (hB6.cell (p := ⟨g, 2, none⟩) hgl).trans e2, (hB6.cell (p := ⟨g, 3, none⟩) hgl).trans e3⟩
        clear hK K
        try simp only [put_laws]
        refine wpAnyH_ready (rs := [10]) (by kernel_rfl) (by simp) ?_
        refine AllReadyH.cons (by simp only [List.getElem?_toArray, List.getElem?_cons_succ, List.getElem?_cons_zero]; rfl) (fun K hK => ?_) AllReadyH.nil
        go_simp
        have hX : Whole (w6.alloc (.cells #[.int .i64 x.f, .int .i64 x.t, .int .i64 x.r, .int .i64 x.u] 24)) (w6).heap.size 24 [.int .i64 x.f, .int .i64 x.t, .int .i64 x.r, .int .i64 x.u] := Whole.new _ _ _
        have hBX := (hB6).alloc (hB6).size (.cells #[.int .i64 x.f, .int .i64 x.t, .int .i64 x.r, .int .i64 x.u] 24)
        refine hK.out _ _ ?_ (fun hHeld => ?_)
        · (try dsimp only); exact ⟨(hBX.cell (p := ⟨g, 0, none⟩) hgl).trans e0, (hBX.cell (p := ⟨g, 1, none⟩) hgl).trans e1, (hBX.cell (p := ⟨g, 2, none⟩) hgl).trans e2, (hBX.cell (p := ⟨g, 3, none⟩) hgl).trans e3⟩
        clear hK K
        try simp only [put_laws]
        have hO7 := own_keep hO6 ((Below.refl w6.heap.size w6).alloc (Nat.le_refl _) (.cells #[.int .i64 x.f, .int .i64 x.t, .int .i64 x.r, .int .i64 x.u] 24))
        refine wpAnyH_ready (rs := [11]) (by kernel_rfl) (by simp) ?_
        refine AllReadyH.cons (by simp only [List.getElem?_toArray, List.getElem?_cons_succ, List.getElem?_cons_zero]; rfl) (fun K hK => ?_) AllReadyH.nil
        rw [if_pos (by rfl)]
        refine wp_pushC (.tmp 33) (.tmp 37) rfl hO7 (hBX).size hX rfl rfl (by omega) ?_; intro g9 cap9 w9 hO9 hgr9
        have hB9 := (hBX).grown hgr9 (hBX).size (fun k hk => (hO7.lt k hk).1)
        refine hK.out _ _ ?_ (fun hHeld => ?_)
        · (try dsimp only); exact ⟨(hB9.cell (p := ⟨g, 0, none⟩) hgl).trans e0, (hB9.cell (p := ⟨g, 1, none⟩) hgl).trans e1, (hB9.cell (p := ⟨g, 2, none⟩) hgl).trans e2, (hB9.cell (p := ⟨g, 3, none⟩) hgl).trans e3⟩
        clear hK K
        try simp only [put_laws]
        refine wpAnyH_ready (rs := [12]) (by kernel_rfl) (by simp) ?_
        refine AllReadyH.cons (by simp only [List.getElem?_toArray, List.getElem?_cons_succ, List.getElem?_cons_zero]; rfl) (fun K hK => ?_) AllReadyH.nil
        go_simp
        refine (carsValid_any _ _ cap9 (ns ++ [x]) w9 (own_cars hO9 HL1.out).cap (own_cars hO9 HL1.out).slAt).mono ?_; rintro e w10 ⟨rfl, hb10⟩; rw [HAG.out]
        have hB10 := below_next hB9 hb10
        refine hK.out _ _ ?_ (fun hHeld => ?_)
        · (try dsimp only); exact ⟨(hB10.cell (p := ⟨g, 0, none⟩) hgl).trans e0, (hB10.cell (p := ⟨g, 1, none⟩) hgl).trans e1, (hB10.cell (p := ⟨g, 2, none⟩) hgl).trans e2, (hB10.cell (p := ⟨g, 3, none⟩) hgl).trans e3⟩
        clear hK K
        try simp only [put_laws]
        refine wpAnyH_take (i := 13) (v := ?vz8_13) (by simp only [List.getElem?_toArray, List.getElem?_cons_succ, List.getElem?_cons_zero]; rfl) (by kernel_rfl) (by kernel_rfl) (by kernel_rfl) (by exact fun _ _ _ h => h) (Or.inl ⟨by rfl, ?hz8_13⟩) hHeld ?rz8_13
        case hz8_13 => (intro w hSw; (try dsimp only at hSw); go_simp; (try with_reducible rfl))
        try simp only [put_laws]
        refine wpAnyH_take (i := 14) (v := ?vz9_14) (by simp only [List.getElem?_toArray, List.getElem?_cons_succ, List.getElem?_cons_zero]; rfl) (by kernel_rfl) (by kernel_rfl) (by kernel_rfl) (by exact fun _ _ _ h => h) (Or.inl ⟨by rfl, ?hz9_14⟩) hHeld ?rz9_14
        case hz9_14 => (intro w hSw; (try dsimp only at hSw); go_simp; (try with_reducible rfl))
        try simp only [put_laws]
        refine wpAnyH_take (i := 15) (v := ?vz10_15) (by simp only [List.getElem?_toArray, List.getElem?_cons_succ, List.getElem?_cons_zero]; rfl) (by kernel_rfl) (by kernel_rfl) (by kernel_rfl) (by exact fun _ _ _ h => h) (Or.inl ⟨by rfl, ?hz10_15⟩) hHeld ?rz10_15
        case hz10_15 => (intro w hSw; (try dsimp only at hSw); go_simp; (try with_reducible rfl))
        try simp only [put_laws]
        refine wpAnyH_done (by kernel_rfl) ?_ _
        have hBz := below_next hB4 hB10
        clear hHeld e0 e1 e2 e3
        go_wp2
        go_ret
        exact ⟨rfl, hBz⟩
      · skip
        go_simp
        have hX : Whole ((w4.alloc (.cells #[] 24)).alloc (.cells #[.int .i64 x.f, .int .i64 x.t, .int .i64 x.r, .int .i64 x.u] 24)) ((w4.alloc (.cells #[] 24))).heap.size 24 [.int .i64 x.f, .int .i64 x.t, .int .i64 x.r, .int .i64 x.u] := Whole.new _ _ _
        rw [show ((w4.alloc (.cells #[] 24))).heap.size = w4.heap.size + 1 by simp] at hX
        have hBX := (hBE).alloc (hBE).size (.cells #[.int .i64 x.f, .int .i64 x.t, .int .i64 x.r, .int .i64 x.u] 24)
        refine hK.out _ _ ?_ (fun hHeld => ?_)
        · (try dsimp only); exact ⟨(hBX.cell (p := ⟨g, 0, none⟩) hgl).trans e0, (hBX.cell (p := ⟨g, 1, none⟩) hgl).trans e1, (hBX.cell (p := ⟨g, 2, none⟩) hgl).trans e2, (hBX.cell (p := ⟨g, 3, none⟩) hgl).trans e3⟩
        clear hK K
        try simp only [put_laws]
        have hE2 := own_keep hE ((Below.refl _ _).alloc (Nat.le_refl _) (.cells #[.int .i64 x.f, .int .i64 x.t, .int .i64 x.r, .int .i64 x.u] 24))
        refine wpAnyH_ready (rs := [6]) (by kernel_rfl) (by simp) ?_
        refine AllReadyH.cons (by simp only [List.getElem?_toArray, List.getElem?_cons_succ, List.getElem?_cons_zero]; rfl) (fun K hK => ?_) AllReadyH.nil
        rw [if_pos (by rfl)]
        refine wp_copyC (.tmp 31) (.tmp 32) rfl hE2 (hBX).size (hO4.below (hBX)) rfl rfl (by omega) ?_; intro v6 w6 hO6 hgr6
        have hB6 := (hBX).grown hgr6 (hBX).size (fun k hk => by injection hk with hk; subst hk; exact (ownV_far hE2).1)
        have hX6 := Whole.grow hX hgr6 (by simp)
        refine hK.out _ _ ?_ (fun hHeld => ?_)
        · (try dsimp only); exact ⟨(hB6.cell (p := ⟨g, 0, none⟩) hgl).trans e0, (hB6.cell (p := ⟨g, 1, none⟩) hgl).trans e1, (hB6.cell (p := ⟨g, 2, none⟩) hgl).trans e2, (hB6.cell (p := ⟨g, 3, none⟩) hgl).trans e3⟩
        clear hK K
        try simp only [put_laws]
        refine wpAnyH_ready (rs := [11]) (by kernel_rfl) (by simp) ?_
        refine AllReadyH.cons (by simp only [List.getElem?_toArray, List.getElem?_cons_succ, List.getElem?_cons_zero]; rfl) (fun K hK => ?_) AllReadyH.nil
        rw [if_pos (by rfl)]
        refine wp_pushC (.tmp 33) (.tmp 37) rfl hO6 (hB6).size hX6 rfl rfl (by omega) ?_; intro g9 cap9 w9 hO9 hgr9
        have hB9 := (hB6).grown hgr9 (hB6).size (fun k hk => (hO6.lt k hk).1)
        refine hK.out _ _ ?_ (fun hHeld => ?_)
        · (try dsimp only); exact ⟨(hB9.cell (p := ⟨g, 0, none⟩) hgl).trans e0, (hB9.cell (p := ⟨g, 1, none⟩) hgl).trans e1, (hB9.cell (p := ⟨g, 2, none⟩) hgl).trans e2, (hB9.cell (p := ⟨g, 3, none⟩) hgl).trans e3⟩
        clear hK K
        try simp only [put_laws]
        refine wpAnyH_ready (rs := [12]) (by kernel_rfl) (by simp) ?_
        refine AllReadyH.cons (by simp only [List.getElem?_toArray, List.getElem?_cons_succ, List.getElem?_cons_zero]; rfl) (fun K hK => ?_) AllReadyH.nil
        go_simp
        refine (carsValid_any _ _ cap9 (ns ++ [x]) w9 (own_cars hO9 HL1.out).cap (own_cars hO9 HL1.out).slAt).mono ?_; rintro e w10 ⟨rfl, hb10⟩; rw [HAG.out]
        have hB10 := below_next hB9 hb10
        refine hK.out _ _ ?_ (fun hHeld => ?_)
        · (try dsimp only); exact ⟨(hB10.cell (p := ⟨g, 0, none⟩) hgl).trans e0, (hB10.cell (p := ⟨g, 1, none⟩) hgl).trans e1, (hB10.cell (p := ⟨g, 2, none⟩) hgl).trans e2, (hB10.cell (p := ⟨g, 3, none⟩) hgl).trans e3⟩
        clear hK K
        try simp only [put_laws]
        refine wpAnyH_take (i := 13) (v := ?vz11_13) (by simp only [List.getElem?_toArray, List.getElem?_cons_succ, List.getElem?_cons_zero]; rfl) (by kernel_rfl) (by kernel_rfl) (by kernel_rfl) (by exact fun _ _ _ h => h) (Or.inl ⟨by rfl, ?hz11_13⟩) hHeld ?rz11_13
        case hz11_13 => (intro w hSw; (try dsimp only at hSw); go_simp; (try with_reducible rfl))
        try simp only [put_laws]
        refine wpAnyH_take (i := 14) (v := ?vz12_14) (by simp only [List.getElem?_toArray, List.getElem?_cons_succ, List.getElem?_cons_zero]; rfl) (by kernel_rfl) (by kernel_rfl) (by kernel_rfl) (by exact fun _ _ _ h => h) (Or.inl ⟨by rfl, ?hz12_14⟩) hHeld ?rz12_14
        case hz12_14 => (intro w hSw; (try dsimp only at hSw); go_simp; (try with_reducible rfl))
        try simp only [put_laws]
        refine wpAnyH_take (i := 15) (v := ?vz13_15) (by simp only [List.getElem?_toArray, List.getElem?_cons_succ, List.getElem?_cons_zero]; rfl) (by kernel_rfl) (by kernel_rfl) (by kernel_rfl) (by exact fun _ _ _ h => h) (Or.inl ⟨by rfl, ?hz13_15⟩) hHeld ?rz13_15
        case hz13_15 => (intro w hSw; (try dsimp only at hSw); go_simp; (try with_reducible rfl))
        try simp only [put_laws]
        refine wpAnyH_done (by kernel_rfl) ?_ _
        have hBz := below_next hB4 hB10
        clear hHeld e0 e1 e2 e3
        go_wp2
        go_ret
        exact ⟨rfl, hBz⟩
    · skip
      go_simp
      have hX : Whole (w4.alloc (.cells #[.int .i64 x.f, .int .i64 x.t, .int .i64 x.r, .int .i64 x.u] 24)) (w4).heap.size 24 [.int .i64 x.f, .int .i64 x.t, .int .i64 x.r, .int .i64 x.u] := Whole.new _ _ _
      have hBX := (h44).alloc (h44).size (.cells #[.int .i64 x.f, .int .i64 x.t, .int .i64 x.r, .int .i64 x.u] 24)
      refine hK.out _ _ ?_ (fun hHeld => ?_)
      · (try dsimp only); exact ⟨(hBX.cell (p := ⟨g, 0, none⟩) hgl).trans e0, (hBX.cell (p := ⟨g, 1, none⟩) hgl).trans e1, (hBX.cell (p := ⟨g, 2, none⟩) hgl).trans e2, (hBX.cell (p := ⟨g, 3, none⟩) hgl).trans e3⟩
      clear hK K
      try simp only [put_laws]
      refine wpAnyH_ready (rs := [4]) (by kernel_rfl) (by simp) ?_
      refine AllReadyH.cons (by simp only [List.getElem?_toArray, List.getElem?_cons_succ, List.getElem?_cons_zero]; rfl) (fun K hK => ?_) AllReadyH.nil
      go_simp
      have hE := ownC0 (w1 := (w4.alloc (.cells #[.int .i64 x.f, .int .i64 x.t, .int .i64 x.r, .int .i64 x.u] 24))) (hBX).size
      rw [show ((w4.alloc (.cells #[.int .i64 x.f, .int .i64 x.t, .int .i64 x.r, .int .i64 x.u] 24))).heap.size = w4.heap.size + 1 by simp] at hE
      have hBE := (hBX).alloc (hBX).size (.cells #[] 24)
      have hX5 := hX.alloc (.cells #[] 24)
      refine hK.out _ _ ?_ (fun hHeld => ?_)
      · (try dsimp only); exact ⟨(hBE.cell (p := ⟨g, 0, none⟩) hgl).trans e0, (hBE.cell (p := ⟨g, 1, none⟩) hgl).trans e1, (hBE.cell (p := ⟨g, 2, none⟩) hgl).trans e2, (hBE.cell (p := ⟨g, 3, none⟩) hgl).trans e3⟩
      clear hK K
      try simp only [put_laws]
      refine wpAnyH_ready (rs := [6]) (by kernel_rfl) (by simp) ?_
      refine AllReadyH.cons (by simp only [List.getElem?_toArray, List.getElem?_cons_succ, List.getElem?_cons_zero]; rfl) (fun K hK => ?_) AllReadyH.nil
      rw [if_pos (by rfl)]
      refine wp_copyC (.tmp 31) (.tmp 32) rfl hE (hBE).size (hO4.below (hBE)) rfl rfl (by omega) ?_; intro v6 w6 hO6 hgr6
      have hB6 := (hBE).grown hgr6 (hBE).size (fun k hk => by injection hk with hk; subst hk; exact (ownV_far hE).1)
      have hX6 := Whole.grow hX5 hgr6 (by simp)
      refine hK.out _ _ ?_ (fun hHeld => ?_)
      · (try dsimp only); exact ⟨(hB6.cell (p := ⟨g, 0, none⟩) hgl).trans e0, (hB6.cell (p := ⟨g, 1, none⟩) hgl).trans e1, (hB6.cell (p := ⟨g, 2, none⟩) hgl).trans e2, (hB6.cell (p := ⟨g, 3, none⟩) hgl).trans e3⟩
      clear hK K
      try simp only [put_laws]
      refine wpAnyH_ready (rs := [11]) (by kernel_rfl) (by simp) ?_
      refine AllReadyH.cons (by simp only [List.getElem?_toArray, List.getElem?_cons_succ, List.getElem?_cons_zero]; rfl) (fun K hK => ?_) AllReadyH.nil
      rw [if_pos (by rfl)]
      refine wp_pushC (.tmp 33) (.tmp 37) rfl hO6 (hB6).size hX6 rfl rfl (by omega) ?_; intro g9 cap9 w9 hO9 hgr9
      have hB9 := (hB6).grown hgr9 (hB6).size (fun k hk => (hO6.lt k hk).1)
      refine hK.out _ _ ?_ (fun hHeld => ?_)
      · (try dsimp only); exact ⟨(hB9.cell (p := ⟨g, 0, none⟩) hgl).trans e0, (hB9.cell (p := ⟨g, 1, none⟩) hgl).trans e1, (hB9.cell (p := ⟨g, 2, none⟩) hgl).trans e2, (hB9.cell (p := ⟨g, 3, none⟩) hgl).trans e3⟩
      clear hK K
      try simp only [put_laws]
      refine wpAnyH_ready (rs := [12]) (by kernel_rfl) (by simp) ?_
      refine AllReadyH.cons (by simp only [List.getElem?_toArray, List.getElem?_cons_succ, List.getElem?_cons_zero]; rfl) (fun K hK => ?_) AllReadyH.nil
      go_simp
      refine (carsValid_any _ _ cap9 (ns ++ [x]) w9 (own_cars hO9 HL1.out).cap (own_cars hO9 HL1.out).slAt).mono ?_; rintro e w10 ⟨rfl, hb10⟩; rw [HAG.out]
      have hB10 := below_next hB9 hb10
      refine hK.out _ _ ?_ (fun hHeld => ?_)
      · (try dsimp only); exact ⟨(hB10.cell (p := ⟨g, 0, none⟩) hgl).trans e0, (hB10.cell (p := ⟨g, 1, none⟩) hgl).trans e1, (hB10.cell (p := ⟨g, 2, none⟩) hgl).trans e2, (hB10.cell (p := ⟨g, 3, none⟩) hgl).trans e3⟩
      clear hK K
      try simp only [put_laws]
      refine wpAnyH_take (i := 13) (v := ?vz14_13) (by simp only [List.getElem?_toArray, List.getElem?_cons_succ, List.getElem?_cons_zero]; rfl) (by kernel_rfl) (by kernel_rfl) (by kernel_rfl) (by exact fun _ _ _ h => h) (Or.inl ⟨by rfl, ?hz14_13⟩) hHeld ?rz14_13
      case hz14_13 => (intro w hSw; (try dsimp only at hSw); go_simp; (try with_reducible rfl))
      try simp only [put_laws]
      refine wpAnyH_take (i := 14) (v := ?vz15_14) (by simp only [List.getElem?_toArray, List.getElem?_cons_succ, List.getElem?_cons_zero]; rfl) (by kernel_rfl) (by kernel_rfl) (by kernel_rfl) (by exact fun _ _ _ h => h) (Or.inl ⟨by rfl, ?hz15_14⟩) hHeld ?rz15_14
      case hz15_14 => (intro w hSw; (try dsimp only at hSw); go_simp; (try with_reducible rfl))
      try simp only [put_laws]
      refine wpAnyH_take (i := 15) (v := ?vz16_15) (by simp only [List.getElem?_toArray, List.getElem?_cons_succ, List.getElem?_cons_zero]; rfl) (by kernel_rfl) (by kernel_rfl) (by kernel_rfl) (by exact fun _ _ _ h => h) (Or.inl ⟨by rfl, ?hz16_15⟩) hHeld ?rz16_15
      case hz16_15 => (intro w hSw; (try dsimp only at hSw); go_simp; (try with_reducible rfl))
      try simp only [put_laws]
      refine wpAnyH_done (by kernel_rfl) ?_ _
      have hBz := below_next hB4 hB10
      clear hHeld e0 e1 e2 e3
      go_wp2
      go_ret
      exact ⟨rfl, hBz⟩
  · skip
    refine wp_region_held_drew (S := fun w' => w'.cell? ⟨g, 0, none⟩ = some (.int .i64 x.f) ∧ w'.cell? ⟨g, 1, none⟩ = some (.int .i64 x.t) ∧ w'.cell? ⟨g, 2, none⟩ = some (.int .i64 x.r) ∧ w'.cell? ⟨g, 3, none⟩ = some (.int .i64 x.u)) (by kernel_rfl) ?_ (fun hHeld => ?_)
    · (try dsimp only); exact ⟨c0, c1, c2, c3⟩
    refine wpAnyH_take (i := 0) (v := ?vz17_0) (by simp only [List.getElem?_toArray, List.getElem?_cons_zero]; rfl) (by kernel_rfl) (by kernel_rfl) (by kernel_rfl) (by exact fun _ _ _ h => h) (Or.inl ⟨by rfl, ?hz17_0⟩) hHeld ?rz17_0
    case hz17_0 => (intro w hSw; (try dsimp only at hSw); go_simp; (try with_reducible rfl))
    try simp only [put_laws]
    refine wpAnyH_take (i := 1) (v := ?vz18_1) (by simp only [List.getElem?_toArray, List.getElem?_cons_succ, List.getElem?_cons_zero]; rfl) (by kernel_rfl) (by kernel_rfl) (by kernel_rfl) (by exact fun _ _ _ h => h) (Or.inl ⟨by rfl, ?hz18_1⟩) hHeld ?rz18_1
    case hz18_1 => (intro w hSw; (try dsimp only at hSw); go_simp; (try with_reducible rfl))
    try simp only [put_laws]
    refine wpAnyH_ready (rs := [2]) (by kernel_rfl) (by simp) ?_
    refine AllReadyH.cons (by simp only [List.getElem?_toArray, List.getElem?_cons_succ, List.getElem?_cons_zero]; rfl) (fun K hK => ?_) AllReadyH.nil
    go_simp
    refine (carsValid_any (some ⟨g, 4, none⟩) (m - 1) _ (ns.drop 1) _ (by omega) (cars_cut4 (hO3.below (Below.refl _ _).drew).slAt)).mono ?_; rintro e w4 ⟨rfl, hb4⟩; rw [carsB_tail HV.out]
    have e0 : w4.cell? ⟨g, 0, none⟩ = some (.int .i64 x.f) := (hb4.cell (p := ⟨g, 0, none⟩) hgl3).trans c0
    have e1 : w4.cell? ⟨g, 1, none⟩ = some (.int .i64 x.t) := (hb4.cell (p := ⟨g, 1, none⟩) hgl3).trans c1
    have e2 : w4.cell? ⟨g, 2, none⟩ = some (.int .i64 x.r) := (hb4.cell (p := ⟨g, 2, none⟩) hgl3).trans c2
    have e3 : w4.cell? ⟨g, 3, none⟩ = some (.int .i64 x.u) := (hb4.cell (p := ⟨g, 3, none⟩) hgl3).trans c3
    have hgl : g < w4.heap.size := Nat.lt_of_lt_of_le hgl3 hb4.size
    have hO4 := (hO3.below (Below.refl _ _).drew).below hb4
    have hB4 : Below w.heap.size w w4 := hB3.trans ((((Below.refl w3.heap.size w3).drew).trans (hb4.mono (Nat.le_refl _))).mono hB3.size)
    have h44 : Below w4.heap.size w4 w4 := Below.refl _ _
    refine hK.out _ _ ?_ (fun hHeld => ?_)
    · (try dsimp only); exact ⟨e0, e1, e2, e3⟩
    clear hK K
    try simp only [put_laws]
    clear hb4 hO3 hB3 c0 c1 c2 c3 hgl3
    refine wpAnyH_take (i := 3) (v := ?vz19_3) (by simp only [List.getElem?_toArray, List.getElem?_cons_succ, List.getElem?_cons_zero]; rfl) (by kernel_rfl) (by kernel_rfl) (by kernel_rfl) (by exact fun _ _ _ h => h) (Or.inl ⟨by rfl, ?hz19_3⟩) hHeld ?rz19_3
    case hz19_3 => (intro w hSw; (try dsimp only at hSw); go_simp; (try with_reducible rfl))
    try simp only [put_laws]
    refine wpAnyH_take (i := 5) (v := ?vz20_5) (by simp only [List.getElem?_toArray, List.getElem?_cons_succ, List.getElem?_cons_zero]; rfl) (by kernel_rfl) (by kernel_rfl) (by kernel_rfl) (by exact fun _ _ _ h => h) (Or.inl ⟨by rfl, ?hz20_5⟩) hHeld ?rz20_5
    case hz20_5 => (intro w hSw; (try dsimp only at hSw); go_simp; (try with_reducible rfl))
    try simp only [put_laws]
    refine wpAnyH_take (i := 7) (v := ?vz21_7) (by simp only [List.getElem?_toArray, List.getElem?_cons_succ, List.getElem?_cons_zero]; rfl) (by kernel_rfl) (by kernel_rfl) (by kernel_rfl) (by exact fun _ _ _ h => h) (Or.inl ⟨by rfl, ?hz21_7⟩) hHeld ?rz21_7
    case hz21_7 => (intro w hSw; (try dsimp only at hSw); go_simp; (try with_reducible rfl))
    try simp only [put_laws]
    refine wpAnyH_take (i := 8) (v := ?vz22_8) (by simp only [List.getElem?_toArray, List.getElem?_cons_succ, List.getElem?_cons_zero]; rfl) (by kernel_rfl) (by kernel_rfl) (by kernel_rfl) (by exact fun _ _ _ h => h) (Or.inl ⟨by rfl, ?hz22_8⟩) hHeld ?rz22_8
    case hz22_8 => (intro w hSw; (try dsimp only at hSw); go_simp; (try with_reducible rfl))
    try simp only [put_laws]
    refine wpAnyH_take (i := 9) (v := ?vz23_9) (by simp only [List.getElem?_toArray, List.getElem?_cons_succ, List.getElem?_cons_zero]; rfl) (by kernel_rfl) (by kernel_rfl) (by kernel_rfl) (by exact fun _ _ _ h => h) (Or.inl ⟨by rfl, ?hz23_9⟩) hHeld ?rz23_9
    case hz23_9 => (intro w hSw; (try dsimp only at hSw); go_simp; (try with_reducible rfl))
    try simp only [put_laws]
    refine wpAnyH_ready (rs := [4, 10]) (by kernel_rfl) (by simp) ?_
    refine AllReadyH.cons (by simp only [List.getElem?_toArray, List.getElem?_cons_succ, List.getElem?_cons_zero]; rfl) (fun K hK => ?_) (AllReadyH.cons (by simp only [List.getElem?_toArray, List.getElem?_cons_succ, List.getElem?_cons_zero]; rfl) (fun K hK => ?_) AllReadyH.nil)
    · skip
      go_simp
      have hE := ownC0 (w1 := w4) (h44).size
      have hBE := (h44).alloc (h44).size (.cells #[] 24)
      refine hK.out _ _ ?_ (fun hHeld => ?_)
      · (try dsimp only); exact ⟨(hBE.cell (p := ⟨g, 0, none⟩) hgl).trans e0, (hBE.cell (p := ⟨g, 1, none⟩) hgl).trans e1, (hBE.cell (p := ⟨g, 2, none⟩) hgl).trans e2, (hBE.cell (p := ⟨g, 3, none⟩) hgl).trans e3⟩
      clear hK K
      try simp only [put_laws]
      refine wpAnyH_ready (rs := [6, 10]) (by kernel_rfl) (by simp) ?_
      refine AllReadyH.cons (by simp only [List.getElem?_toArray, List.getElem?_cons_succ, List.getElem?_cons_zero]; rfl) (fun K hK => ?_) (AllReadyH.cons (by simp only [List.getElem?_toArray, List.getElem?_cons_succ, List.getElem?_cons_zero]; rfl) (fun K hK => ?_) AllReadyH.nil)
      · skip
        rw [if_pos (by rfl)]
        refine wp_copyC (.tmp 31) (.tmp 32) rfl hE (hBE).size (hO4.below (hBE)) rfl rfl (by omega) ?_; intro v6 w6 hO6 hgr6
        have hB6 := (hBE).grown hgr6 (hBE).size (fun k hk => by injection hk with hk; subst hk; exact (ownV_far hE).1)
        refine hK.out _ _ ?_ (fun hHeld => ?_)
        · (try dsimp only); exact ⟨(hB6.cell (p := ⟨g, 0, none⟩) hgl).trans e0, (hB6.cell (p := ⟨g, 1, none⟩) hgl).trans e1, (hB6.cell (p := ⟨g, 2, none⟩) hgl).trans e2, (hB6.cell (p := ⟨g, 3, none⟩) hgl).trans e3⟩
        clear hK K
        try simp only [put_laws]
        refine wpAnyH_ready (rs := [10]) (by kernel_rfl) (by simp) ?_
        refine AllReadyH.cons (by simp only [List.getElem?_toArray, List.getElem?_cons_succ, List.getElem?_cons_zero]; rfl) (fun K hK => ?_) AllReadyH.nil
        go_simp
        have hX : Whole (w6.alloc (.cells #[.int .i64 x.f, .int .i64 x.t, .int .i64 x.r, .int .i64 x.u] 24)) (w6).heap.size 24 [.int .i64 x.f, .int .i64 x.t, .int .i64 x.r, .int .i64 x.u] := Whole.new _ _ _
        have hBX := (hB6).alloc (hB6).size (.cells #[.int .i64 x.f, .int .i64 x.t, .int .i64 x.r, .int .i64 x.u] 24)
        refine hK.out _ _ ?_ (fun hHeld => ?_)
        · (try dsimp only); exact ⟨(hBX.cell (p := ⟨g, 0, none⟩) hgl).trans e0, (hBX.cell (p := ⟨g, 1, none⟩) hgl).trans e1, (hBX.cell (p := ⟨g, 2, none⟩) hgl).trans e2, (hBX.cell (p := ⟨g, 3, none⟩) hgl).trans e3⟩
        clear hK K
        try simp only [put_laws]
        have hO7 := own_keep hO6 ((Below.refl w6.heap.size w6).alloc (Nat.le_refl _) (.cells #[.int .i64 x.f, .int .i64 x.t, .int .i64 x.r, .int .i64 x.u] 24))
        refine wpAnyH_ready (rs := [11]) (by kernel_rfl) (by simp) ?_
        refine AllReadyH.cons (by simp only [List.getElem?_toArray, List.getElem?_cons_succ, List.getElem?_cons_zero]; rfl) (fun K hK => ?_) AllReadyH.nil
        rw [if_pos (by rfl)]
        refine wp_pushC (.tmp 33) (.tmp 37) rfl hO7 (hBX).size hX rfl rfl (by omega) ?_; intro g9 cap9 w9 hO9 hgr9
        have hB9 := (hBX).grown hgr9 (hBX).size (fun k hk => (hO7.lt k hk).1)
        refine hK.out _ _ ?_ (fun hHeld => ?_)
        · (try dsimp only); exact ⟨(hB9.cell (p := ⟨g, 0, none⟩) hgl).trans e0, (hB9.cell (p := ⟨g, 1, none⟩) hgl).trans e1, (hB9.cell (p := ⟨g, 2, none⟩) hgl).trans e2, (hB9.cell (p := ⟨g, 3, none⟩) hgl).trans e3⟩
        clear hK K
        try simp only [put_laws]
        refine wpAnyH_ready (rs := [12]) (by kernel_rfl) (by simp) ?_
        refine AllReadyH.cons (by simp only [List.getElem?_toArray, List.getElem?_cons_succ, List.getElem?_cons_zero]; rfl) (fun K hK => ?_) AllReadyH.nil
        go_simp
        refine (carsValid_any _ _ cap9 (ns ++ [x]) w9 (own_cars hO9 HL1.out).cap (own_cars hO9 HL1.out).slAt).mono ?_; rintro e w10 ⟨rfl, hb10⟩; rw [HAG.out]
        have hB10 := below_next hB9 hb10
        refine hK.out _ _ ?_ (fun hHeld => ?_)
        · (try dsimp only); exact ⟨(hB10.cell (p := ⟨g, 0, none⟩) hgl).trans e0, (hB10.cell (p := ⟨g, 1, none⟩) hgl).trans e1, (hB10.cell (p := ⟨g, 2, none⟩) hgl).trans e2, (hB10.cell (p := ⟨g, 3, none⟩) hgl).trans e3⟩
        clear hK K
        try simp only [put_laws]
        refine wpAnyH_take (i := 13) (v := ?vz24_13) (by simp only [List.getElem?_toArray, List.getElem?_cons_succ, List.getElem?_cons_zero]; rfl) (by kernel_rfl) (by kernel_rfl) (by kernel_rfl) (by exact fun _ _ _ h => h) (Or.inl ⟨by rfl, ?hz24_13⟩) hHeld ?rz24_13
        case hz24_13 => (intro w hSw; (try dsimp only at hSw); go_simp; (try with_reducible rfl))
        try simp only [put_laws]
        refine wpAnyH_take (i := 14) (v := ?vz25_14) (by simp only [List.getElem?_toArray, List.getElem?_cons_succ, List.getElem?_cons_zero]; rfl) (by kernel_rfl) (by kernel_rfl) (by kernel_rfl) (by exact fun _ _ _ h => h) (Or.inl ⟨by rfl, ?hz25_14⟩) hHeld ?rz25_14
        case hz25_14 => (intro w hSw; (try dsimp only at hSw); go_simp; (try with_reducible rfl))
        try simp only [put_laws]
        refine wpAnyH_take (i := 15) (v := ?vz26_15) (by simp only [List.getElem?_toArray, List.getElem?_cons_succ, List.getElem?_cons_zero]; rfl) (by kernel_rfl) (by kernel_rfl) (by kernel_rfl) (by exact fun _ _ _ h => h) (Or.inl ⟨by rfl, ?hz26_15⟩) hHeld ?rz26_15
        case hz26_15 => (intro w hSw; (try dsimp only at hSw); go_simp; (try with_reducible rfl))
        try simp only [put_laws]
        refine wpAnyH_done (by kernel_rfl) ?_ _
        have hBz := below_next hB4 hB10
        clear hHeld e0 e1 e2 e3
        go_wp2
        go_ret
        exact ⟨rfl, hBz⟩
      · skip
        go_simp
        have hX : Whole ((w4.alloc (.cells #[] 24)).alloc (.cells #[.int .i64 x.f, .int .i64 x.t, .int .i64 x.r, .int .i64 x.u] 24)) ((w4.alloc (.cells #[] 24))).heap.size 24 [.int .i64 x.f, .int .i64 x.t, .int .i64 x.r, .int .i64 x.u] := Whole.new _ _ _
        rw [show ((w4.alloc (.cells #[] 24))).heap.size = w4.heap.size + 1 by simp] at hX
        have hBX := (hBE).alloc (hBE).size (.cells #[.int .i64 x.f, .int .i64 x.t, .int .i64 x.r, .int .i64 x.u] 24)
        refine hK.out _ _ ?_ (fun hHeld => ?_)
        · (try dsimp only); exact ⟨(hBX.cell (p := ⟨g, 0, none⟩) hgl).trans e0, (hBX.cell (p := ⟨g, 1, none⟩) hgl).trans e1, (hBX.cell (p := ⟨g, 2, none⟩) hgl).trans e2, (hBX.cell (p := ⟨g, 3, none⟩) hgl).trans e3⟩
        clear hK K
        try simp only [put_laws]
        have hE2 := own_keep hE ((Below.refl _ _).alloc (Nat.le_refl _) (.cells #[.int .i64 x.f, .int .i64 x.t, .int .i64 x.r, .int .i64 x.u] 24))
        refine wpAnyH_ready (rs := [6]) (by kernel_rfl) (by simp) ?_
        refine AllReadyH.cons (by simp only [List.getElem?_toArray, List.getElem?_cons_succ, List.getElem?_cons_zero]; rfl) (fun K hK => ?_) AllReadyH.nil
        rw [if_pos (by rfl)]
        refine wp_copyC (.tmp 31) (.tmp 32) rfl hE2 (hBX).size (hO4.below (hBX)) rfl rfl (by omega) ?_; intro v6 w6 hO6 hgr6
        have hB6 := (hBX).grown hgr6 (hBX).size (fun k hk => by injection hk with hk; subst hk; exact (ownV_far hE2).1)
        have hX6 := Whole.grow hX hgr6 (by simp)
        refine hK.out _ _ ?_ (fun hHeld => ?_)
        · (try dsimp only); exact ⟨(hB6.cell (p := ⟨g, 0, none⟩) hgl).trans e0, (hB6.cell (p := ⟨g, 1, none⟩) hgl).trans e1, (hB6.cell (p := ⟨g, 2, none⟩) hgl).trans e2, (hB6.cell (p := ⟨g, 3, none⟩) hgl).trans e3⟩
        clear hK K
        try simp only [put_laws]
        refine wpAnyH_ready (rs := [11]) (by kernel_rfl) (by simp) ?_
        refine AllReadyH.cons (by simp only [List.getElem?_toArray, List.getElem?_cons_succ, List.getElem?_cons_zero]; rfl) (fun K hK => ?_) AllReadyH.nil
        rw [if_pos (by rfl)]
        refine wp_pushC (.tmp 33) (.tmp 37) rfl hO6 (hB6).size hX6 rfl rfl (by omega) ?_; intro g9 cap9 w9 hO9 hgr9
        have hB9 := (hB6).grown hgr9 (hB6).size (fun k hk => (hO6.lt k hk).1)
        refine hK.out _ _ ?_ (fun hHeld => ?_)
        · (try dsimp only); exact ⟨(hB9.cell (p := ⟨g, 0, none⟩) hgl).trans e0, (hB9.cell (p := ⟨g, 1, none⟩) hgl).trans e1, (hB9.cell (p := ⟨g, 2, none⟩) hgl).trans e2, (hB9.cell (p := ⟨g, 3, none⟩) hgl).trans e3⟩
        clear hK K
        try simp only [put_laws]
        refine wpAnyH_ready (rs := [12]) (by kernel_rfl) (by simp) ?_
        refine AllReadyH.cons (by simp only [List.getElem?_toArray, List.getElem?_cons_succ, List.getElem?_cons_zero]; rfl) (fun K hK => ?_) AllReadyH.nil
        go_simp
        refine (carsValid_any _ _ cap9 (ns ++ [x]) w9 (own_cars hO9 HL1.out).cap (own_cars hO9 HL1.out).slAt).mono ?_; rintro e w10 ⟨rfl, hb10⟩; rw [HAG.out]
        have hB10 := below_next hB9 hb10
        refine hK.out _ _ ?_ (fun hHeld => ?_)
        · (try dsimp only); exact ⟨(hB10.cell (p := ⟨g, 0, none⟩) hgl).trans e0, (hB10.cell (p := ⟨g, 1, none⟩) hgl).trans e1, (hB10.cell (p := ⟨g, 2, none⟩) hgl).trans e2, (hB10.cell (p := ⟨g, 3, none⟩) hgl).trans e3⟩
        clear hK K
        try simp only [put_laws]
        refine wpAnyH_take (i := 13) (v := ?vz27_13) (by simp only [List.getElem?_toArray, List.getElem?_cons_succ, List.getElem?_cons_zero]; rfl) (by kernel_rfl) (by kernel_rfl) (by kernel_rfl) (by exact fun _ _ _ h => h) (Or.inl ⟨by rfl, ?hz27_13⟩) hHeld ?rz27_13
        case hz27_13 => (intro w hSw; (try dsimp only at hSw); go_simp; (try with_reducible rfl))
        try simp only [put_laws]
        refine wpAnyH_take (i := 14) (v := ?vz28_14) (by simp only [List.getElem?_toArray, List.getElem?_cons_succ, List.getElem?_cons_zero]; rfl) (by kernel_rfl) (by kernel_rfl) (by kernel_rfl) (by exact fun _ _ _ h => h) (Or.inl ⟨by rfl, ?hz28_14⟩) hHeld ?rz28_14
        case hz28_14 => (intro w hSw; (try dsimp only at hSw); go_simp; (try with_reducible rfl))
        try simp only [put_laws]
        refine wpAnyH_take (i := 15) (v := ?vz29_15) (by simp only [List.getElem?_toArray, List.getElem?_cons_succ, List.getElem?_cons_zero]; rfl) (by kernel_rfl) (by kernel_rfl) (by kernel_rfl) (by exact fun _ _ _ h => h) (Or.inl ⟨by rfl, ?hz29_15⟩) hHeld ?rz29_15
        case hz29_15 => (intro w hSw; (try dsimp only at hSw); go_simp; (try with_reducible rfl))
        try simp only [put_laws]
        refine wpAnyH_done (by kernel_rfl) ?_ _
        have hBz := below_next hB4 hB10
        clear hHeld e0 e1 e2 e3
        go_wp2
        go_ret
        exact ⟨rfl, hBz⟩
    · skip
      go_simp
      have hX : Whole (w4.alloc (.cells #[.int .i64 x.f, .int .i64 x.t, .int .i64 x.r, .int .i64 x.u] 24)) (w4).heap.size 24 [.int .i64 x.f, .int .i64 x.t, .int .i64 x.r, .int .i64 x.u] := Whole.new _ _ _
      have hBX := (h44).alloc (h44).size (.cells #[.int .i64 x.f, .int .i64 x.t, .int .i64 x.r, .int .i64 x.u] 24)
      refine hK.out _ _ ?_ (fun hHeld => ?_)
      · (try dsimp only); exact ⟨(hBX.cell (p := ⟨g, 0, none⟩) hgl).trans e0, (hBX.cell (p := ⟨g, 1, none⟩) hgl).trans e1, (hBX.cell (p := ⟨g, 2, none⟩) hgl).trans e2, (hBX.cell (p := ⟨g, 3, none⟩) hgl).trans e3⟩
      clear hK K
      try simp only [put_laws]
      refine wpAnyH_ready (rs := [4]) (by kernel_rfl) (by simp) ?_
      refine AllReadyH.cons (by simp only [List.getElem?_toArray, List.getElem?_cons_succ, List.getElem?_cons_zero]; rfl) (fun K hK => ?_) AllReadyH.nil
      go_simp
      have hE := ownC0 (w1 := (w4.alloc (.cells #[.int .i64 x.f, .int .i64 x.t, .int .i64 x.r, .int .i64 x.u] 24))) (hBX).size
      rw [show ((w4.alloc (.cells #[.int .i64 x.f, .int .i64 x.t, .int .i64 x.r, .int .i64 x.u] 24))).heap.size = w4.heap.size + 1 by simp] at hE
      have hBE := (hBX).alloc (hBX).size (.cells #[] 24)
      have hX5 := hX.alloc (.cells #[] 24)
      refine hK.out _ _ ?_ (fun hHeld => ?_)
      · (try dsimp only); exact ⟨(hBE.cell (p := ⟨g, 0, none⟩) hgl).trans e0, (hBE.cell (p := ⟨g, 1, none⟩) hgl).trans e1, (hBE.cell (p := ⟨g, 2, none⟩) hgl).trans e2, (hBE.cell (p := ⟨g, 3, none⟩) hgl).trans e3⟩
      clear hK K
      try simp only [put_laws]
      refine wpAnyH_ready (rs := [6]) (by kernel_rfl) (by simp) ?_
      refine AllReadyH.cons (by simp only [List.getElem?_toArray, List.getElem?_cons_succ, List.getElem?_cons_zero]; rfl) (fun K hK => ?_) AllReadyH.nil
      rw [if_pos (by rfl)]
      refine wp_copyC (.tmp 31) (.tmp 32) rfl hE (hBE).size (hO4.below (hBE)) rfl rfl (by omega) ?_; intro v6 w6 hO6 hgr6
      have hB6 := (hBE).grown hgr6 (hBE).size (fun k hk => by injection hk with hk; subst hk; exact (ownV_far hE).1)
      have hX6 := Whole.grow hX5 hgr6 (by simp)
      refine hK.out _ _ ?_ (fun hHeld => ?_)
      · (try dsimp only); exact ⟨(hB6.cell (p := ⟨g, 0, none⟩) hgl).trans e0, (hB6.cell (p := ⟨g, 1, none⟩) hgl).trans e1, (hB6.cell (p := ⟨g, 2, none⟩) hgl).trans e2, (hB6.cell (p := ⟨g, 3, none⟩) hgl).trans e3⟩
      clear hK K
      try simp only [put_laws]
      refine wpAnyH_ready (rs := [11]) (by kernel_rfl) (by simp) ?_
      refine AllReadyH.cons (by simp only [List.getElem?_toArray, List.getElem?_cons_succ, List.getElem?_cons_zero]; rfl) (fun K hK => ?_) AllReadyH.nil
      rw [if_pos (by rfl)]
      refine wp_pushC (.tmp 33) (.tmp 37) rfl hO6 (hB6).size hX6 rfl rfl (by omega) ?_; intro g9 cap9 w9 hO9 hgr9
      have hB9 := (hB6).grown hgr9 (hB6).size (fun k hk => (hO6.lt k hk).1)
      refine hK.out _ _ ?_ (fun hHeld => ?_)
      · (try dsimp only); exact ⟨(hB9.cell (p := ⟨g, 0, none⟩) hgl).trans e0, (hB9.cell (p := ⟨g, 1, none⟩) hgl).trans e1, (hB9.cell (p := ⟨g, 2, none⟩) hgl).trans e2, (hB9.cell (p := ⟨g, 3, none⟩) hgl).trans e3⟩
      clear hK K
      try simp only [put_laws]
      refine wpAnyH_ready (rs := [12]) (by kernel_rfl) (by simp) ?_
      refine AllReadyH.cons (by simp only [List.getElem?_toArray, List.getElem?_cons_succ, List.getElem?_cons_zero]; rfl) (fun K hK => ?_) AllReadyH.nil
      go_simp
      refine (carsValid_any _ _ cap9 (ns ++ [x]) w9 (own_cars hO9 HL1.out).cap (own_cars hO9 HL1.out).slAt).mono ?_; rintro e w10 ⟨rfl, hb10⟩; rw [HAG.out]
      have hB10 := below_next hB9 hb10
      refine hK.out _ _ ?_ (fun hHeld => ?_)
      · (try dsimp only); exact ⟨(hB10.cell (p := ⟨g, 0, none⟩) hgl).trans e0, (hB10.cell (p := ⟨g, 1, none⟩) hgl).trans e1, (hB10.cell (p := ⟨g, 2, none⟩) hgl).trans e2, (hB10.cell (p := ⟨g, 3, none⟩) hgl).trans e3⟩
      clear hK K
      try simp only [put_laws]
      refine wpAnyH_take (i := 13) (v := ?vz30_13) (by simp only [List.getElem?_toArray, List.getElem?_cons_succ, List.getElem?_cons_zero]; rfl) (by kernel_rfl) (by kernel_rfl) (by kernel_rfl) (by exact fun _ _ _ h => h) (Or.inl ⟨by rfl, ?hz30_13⟩) hHeld ?rz30_13
      case hz30_13 => (intro w hSw; (try dsimp only at hSw); go_simp; (try with_reducible rfl))
      try simp only [put_laws]
      refine wpAnyH_take (i := 14) (v := ?vz31_14) (by simp only [List.getElem?_toArray, List.getElem?_cons_succ, List.getElem?_cons_zero]; rfl) (by kernel_rfl) (by kernel_rfl) (by kernel_rfl) (by exact fun _ _ _ h => h) (Or.inl ⟨by rfl, ?hz31_14⟩) hHeld ?rz31_14
      case hz31_14 => (intro w hSw; (try dsimp only at hSw); go_simp; (try with_reducible rfl))
      try simp only [put_laws]
      refine wpAnyH_take (i := 15) (v := ?vz32_15) (by simp only [List.getElem?_toArray, List.getElem?_cons_succ, List.getElem?_cons_zero]; rfl) (by kernel_rfl) (by kernel_rfl) (by kernel_rfl) (by exact fun _ _ _ h => h) (Or.inl ⟨by rfl, ?hz32_15⟩) hHeld ?rz32_15
      case hz32_15 => (intro w hSw; (try dsimp only at hSw); go_simp; (try with_reducible rfl))
      try simp only [put_laws]
      refine wpAnyH_done (by kernel_rfl) ?_ _
      have hBz := below_next hB4 hB10
      clear hHeld e0 e1 e2 e3
      go_wp2
      go_ret
      exact ⟨rfl, hBz⟩
end Go.Proofs.YtpipbkefelcmbaaDoor
