/-
  CarsDown of the reference: the greatest car that is left, again and again.
-/
import Derived.Test.YtmmaeninlhbaaaaDoorSortD
namespace Go.Proofs.YtmmaeninlhbaaaaDoor
open Go.ChangeShapes Go.WideShapes Go.ChangeAt Go.RowKit

/-- The first one of those before j that are not out. -/
def bestJ (cs : List C4) (out : List Nat) : Nat → Option Nat
  | 0 => none
  | j + 1 => if j ∈ out then bestJ cs out j else match bestJ cs out j with | none => some j | some b => if szAt cs b < szAt cs j then some j else some b
theorem bestJ_out {cs : List C4} {out : List Nat} {j : Nat} (h : j ∈ out) : bestJ cs out (j + 1) = bestJ cs out j := by simp [bestJ, h]
theorem bestJ_first {cs : List C4} {out : List Nat} {j : Nat} (h : j ∉ out) (hb : bestJ cs out j = none) : bestJ cs out (j + 1) = some j := by simp [bestJ, h, hb]
theorem bestJ_yes {cs : List C4} {out : List Nat} {j b : Nat} (h : j ∉ out) (hb : bestJ cs out j = some b) (hs : szAt cs b < szAt cs j) : bestJ cs out (j + 1) = some j := by simp [bestJ, h, hb, hs]
theorem bestJ_no {cs : List C4} {out : List Nat} {j b : Nat} (h : j ∉ out) (hb : bestJ cs out j = some b) (hs : ¬ szAt cs b < szAt cs j) : bestJ cs out (j + 1) = some b := by simp [bestJ, h, hb, hs]
theorem bestJ_spec (cs : List C4) (out : List Nat) : ∀ j, match bestJ cs out j with | none => ∀ i, i < j → i ∈ out | some b => b < j ∧ b ∉ out ∧ ∀ i, i < j → i ∉ out → i = b ∨ ahead cs b i
  | 0 => fun i h => by omega
  | j + 1 => by
    have ih := bestJ_spec cs out j
    by_cases hj : j ∈ out
    · rw [bestJ_out hj]
      cases hb : bestJ cs out j with
      | none => rw [hb] at ih; intro i hi; by_cases h : i = j; subst h; exact hj; exact ih i (by omega)
      | some b => rw [hb] at ih; exact ⟨by omega, ih.2.1, fun i hi ho => ih.2.2 i (by by_cases h : i = j; subst h; exact absurd hj ho; omega) ho⟩
    · cases hb : bestJ cs out j with
      | none =>
        rw [hb] at ih; rw [bestJ_first hj hb]
        refine ⟨by omega, hj, fun i hi ho => ?_⟩
        by_cases h : i = j
        · exact .inl h
        · exact absurd (ih i (by omega)) ho
      | some b =>
        rw [hb] at ih
        obtain ⟨h1, h2, h3⟩ := ih
        by_cases hs : szAt cs b < szAt cs j
        · rw [bestJ_yes hj hb hs]
          have hjb : ahead cs j b := .inl hs
          refine ⟨by omega, hj, fun i hi ho => ?_⟩
          by_cases h : i = j
          · exact .inl h
          · rcases h3 i (by omega) ho with rfl | h4
            · exact .inr hjb
            · exact .inr (ahead_trans hjb h4)
        · rw [bestJ_no hj hb hs]
          refine ⟨by omega, h2, fun i hi ho => ?_⟩
          by_cases h : i = j
          · subst h; exact .inr (by unfold ahead; omega)
          · exact h3 i (by omega) ho
theorem bestJ_lt {cs : List C4} {out : List Nat} {j b : Nat} (h : bestJ cs out j = some b) : b < j := by have := bestJ_spec cs out j; rw [h] at this; exact this.1
/-- It is the next one of the order. -/
theorem bestJ_next {cs : List C4} {n k : Nat} (hk : k < n) : ∃ d, bestJ cs ((downK cs n).take k) n = some d ∧ (downK cs n).take (k + 1) = (downK cs n).take k ++ [d] := by
  have hD := downK_is cs n
  have hl := downK_len hD
  have hd : (downK cs n)[k]? = some (downK cs n)[k] := List.getElem?_eq_getElem (by omega)
  refine ⟨(downK cs n)[k], ?_, by rw [List.take_add_one, hd]; rfl⟩
  generalize hdd : (downK cs n)[k] = d at hd
  have hsplit : downK cs n = (downK cs n).take k ++ d :: (downK cs n).drop (k + 1) := by
    have := List.take_append_drop k (downK cs n)
    rw [List.drop_eq_getElem_cons (by omega), hdd] at this
    exact this.symm
  have hp := hD.down
  rw [hsplit, List.pairwise_append] at hp
  have hdn : d < n := (hD.all d).1 (List.mem_of_getElem? hd)
  have hdo : d ∉ (downK cs n).take k := fun hm => ahead_not (hp.2.2 d hm d (by simp)) (hp.2.2 d hm d (by simp))
  have hs := bestJ_spec cs ((downK cs n).take k) n
  cases hb : bestJ cs ((downK cs n).take k) n with
  | none => rw [hb] at hs; exact absurd (hs d hdn) hdo
  | some b =>
    rw [hb] at hs
    obtain ⟨h1, h2, h3⟩ := hs
    rcases h3 d hdn hdo with rfl | h4
    · rfl
    · exfalso
      have hbm : b ∈ downK cs n := (hD.all b).2 h1
      rw [hsplit] at hbm
      rcases List.mem_append.1 hbm with h5 | h5
      · exact h2 h5
      · rcases List.mem_cons.1 h5 with rfl | h5
        · exact ahead_not h4 h4
        · exact ahead_not h4 ((List.pairwise_cons.1 hp.2.1).1 b h5)
def bvI : Option Nat → Int | none => -1 | some b => (b : Int)
theorem hasB_toI {l : List Nat} {j : Nat} : hasB (toI l) (j : Int) = decide (j ∈ l) := by
  rw [Bool.eq_iff_iff, hasB_iff, decide_eq_true_eq]
  unfold toI
  rw [List.mem_map]
  constructor
  · rintro ⟨i, hi, e⟩
    obtain rfl : i = j := by omega
    exact hi
  · intro h; exact ⟨j, h, rfl⟩
set_option maxHeartbeats 1000000 in
theorem l3Size_any (x : C4) (w : World) (r13 : 1 ≤ x.t) (r14 : x.t ≤ 9) (r15 : 1 ≤ x.r) (r16 : x.r ≤ 9) (r17 : 1 ≤ x.u) (r18 : x.u ≤ 9) :
    Calls Tryd.prog 50 #[.agg #[.int .i64 x.f, .int .i64 x.t, .int .i64 x.r, .int .i64 x.u]] w (RV w (.int .i64 (szC x))) := by
  go_enter Tryd.func50, Tryd.ntmps50
  go_wp2
  go_ret
  exact ⟨rfl, (Below.refl _ _).alloc (Nat.le_refl _) _⟩

set_option maxRecDepth 100000 in
set_option maxHeartbeats 3000000 in
theorem specCarsDown_any (A : Option Addr) (n c : Nat) (cs : List C4) (w : World) (hn : n ≤ c ∧ c ≤ 9223372036854775807) (hx : CarsAt w A n cs) :
    Calls Tryd.prog 22 #[.slice A n c] w (OwnR w (downL cs)) := by
  have HLN := Lib.hid hx.len
  have HN := Lib.hid hn
  have hn0 : n ≤ 9223372036854775807 := by omega
  have hbs : ∀ w : World, (Instr.buildSlice 27 0 #[]).run Tryd.prog w = .ok (.slice (some ⟨w.heap.size, 0, none⟩) 0 0) (w.alloc (.cells #[] 3)) := fun _ => by kernel_rfl
  go_enter Tryd.func22, Tryd.ntmps22
  go_wp2
  clear hbs
  have hO1 := own0 (base := w.heap.size) (w1 := w) (Nat.le_refl _)
  have hb1 : Below w.heap.size w (w.alloc (.cells #[] 3)) := (Below.refl _ _).alloc (Nat.le_refl _) _
  generalize w.alloc (.cells #[] 3) = w1 at hO1 hb1 ⊢
  go_loopw [3, 4, 5, 6] (fun vo vk _ _ wr => ∃ (k go cap : Nat), k ≤ n ∧ (0 < k → carsB cs = true) ∧ vk = .int .i64 k ∧ vo = .slice (some ⟨go, 0, none⟩) k cap ∧ wr.ownsRow w.heap.size 3 1 (.slice (some ⟨go, 0, none⟩) k cap) k ((toI ((downK cs n).take k)).map (Value.int .i64)) ∧ Below w.heap.size w wr) (fun _ k _ _ _ => n - (intOf k).toNat)
  case atStart => exact ⟨0, _, _, by omega, fun h => by omega, rfl, rfl, hO1, hb1⟩
  case round =>
    obtain ⟨k, go, cap, hkn, hkc, rfl, rfl, hO, hbr⟩ := hrel
    clear hO1 hb1
    have HKC := Lib.hid hkc
    clear hkc
    by_cases hlt : k < n
    · have hkd : decide ((k : Int) < (n : Int)) = true := by simp; omega
      go_wp2_with fail
      refine (specCarsValid_any A n c cs wr HN.out (hx.below hbr)).mono ?_; rintro e w2 ⟨rfl, hb2⟩
      have hO2 := own_keep hO hb2
      have hB2 := below_next hbr hb2
      clear hO hbr hb2
      cases hC : carsB cs
      · have hk0 : k = 0 := by
          by_cases h : 0 < k
          · have := HKC.out h; rw [hC] at this; cases this
          · omega
        subst hk0
        have HC := Lib.hid hC
        clear hC
        go_wp2
        go_ret
        rw [downL_no HC.out]
        exact ownR_row (rs := []) hO2 (Below.refl _ _) hB2
      have HC := Lib.hid hC
      clear hC
      have hn6 : n ≤ 6 := by have := carsB_len HC.out; have := HLN.out; omega
      have hx2 := hx.below hB2
      go_wp2
      go_loopw [5, 6] (fun vb vj wq => ∃ (j : Nat), j ≤ n ∧ vj = .int .i64 j ∧ vb = .int .i64 (bvI (bestJ cs ((downK cs n).take k) j)) ∧ Below w2.heap.size w2 wq) (fun _ j _ => n - (intOf j).toNat)
      case atStart => exact ⟨0, by omega, rfl, rfl, Below.refl _ _⟩
      case round =>
        obtain ⟨j, hjn, rfl, rfl, hbj⟩ := hrel
        obtain ⟨w8, rfl⟩ : ∃ w8, w8 = wr := ⟨_, rfl⟩
        have hO8 := own_keep hO2 hbj
        have hI8 := (OwnAt.farInts hO8).ints
        have hI8d := hI8.below (Below.refl w8.heap.size w8).drew
        by_cases hltj : j < n
        · have hx8 := hx2.below hbj
          obtain ⟨x, g, off, HX, rfl, hgc, c0, c1, c2, c3⟩ := hx8.get hltj
          obtain ⟨-, ⟨x1, x2⟩, ⟨x3, x4⟩, x5, x6⟩ := car_range (carsB_get HC.out HX)
          have HSX := Lib.hid (szAt_get HX)
          have hlj : (j : Int) < (n : Int) := by omega
          have hj0 : (0 : Int) ≤ (j : Int) := by omega
          clear HX
          by_cases hout : j ∈ (downK cs n).take k
          · have hhas : hasB (toI ((downK cs n).take k)) (j : Int) = true := by rw [hasB_toI]; simpa using hout
            have HJ := Lib.hid (bestJ_out (cs := cs) hout)
            clear hout x1 x2 x3 x4 x5 x6
            go_upto_region 9 with fail
            refine wp_region_held_drew (S := (fun w' => w'.cell? ⟨g, off + j * 4, none⟩ = some (.int .i64 x.f) ∧ w'.cell? ⟨g, off + j * 4 + 1, none⟩ = some (.int .i64 x.t) ∧ w'.cell? ⟨g, off + j * 4 + 2, none⟩ = some (.int .i64 x.r) ∧ w'.cell? ⟨g, off + j * 4 + 3, none⟩ = some (.int .i64 x.u))) (by kernel_rfl) ?_ (fun hHeld => ?_)
            · (try dsimp only); exact ⟨c0, c1, c2, c3⟩
            refine wpAnyH_take (i := 0) (v := ?vq1_0) (by simp only [List.getElem?_toArray, List.getElem?_cons_zero]; rfl) (by kernel_rfl) (by kernel_rfl) (by kernel_rfl) (by exact fun _ _ _ h => h) (Or.inl ⟨by rfl, ?hq1_0⟩) hHeld ?rq1_0
            case hq1_0 => (intro w hSw; (try dsimp only at hSw); go_simp; (try with_reducible rfl))
            try simp only [put_laws]
            refine wpAnyH_take (i := 1) (v := ?vq1_1) (by simp only [List.getElem?_toArray, List.getElem?_cons_succ, List.getElem?_cons_zero]; rfl) (by kernel_rfl) (by kernel_rfl) (by kernel_rfl) (by exact fun _ _ _ h => h) (Or.inl ⟨by rfl, ?hq1_1⟩) hHeld ?rq1_1
            case hq1_1 => (intro w hSw; (try dsimp only at hSw); go_simp; (try with_reducible rfl))
            try simp only [put_laws]
            refine wpAnyH_ready (rs := [2]) (by kernel_rfl) (by simp) ?_
            refine AllReadyH.cons (by simp only [List.getElem?_toArray, List.getElem?_cons_succ, List.getElem?_cons_zero]; rfl) (fun K hK => ?_) AllReadyH.nil
            go_simp
            refine (l1Has_yes _ k cap _ (j : Int) _ (by omega) hI8d hhas).mono ?_; rintro e w9 ⟨rfl, rfl⟩
            refine hK.out _ _ ?_ (fun hHeld => ?_)
            · (try dsimp only); exact ⟨c0, c1, c2, c3⟩
            clear hK K
            try simp only [put_laws]
            refine wpAnyH_take (i := 3) (v := ?vq1_3) (by simp only [List.getElem?_toArray, List.getElem?_cons_succ, List.getElem?_cons_zero]; rfl) (by kernel_rfl) (by kernel_rfl) (by kernel_rfl) (by exact fun _ _ _ h => h) (Or.inl ⟨by rfl, ?hq1_3⟩) hHeld ?rq1_3
            case hq1_3 => (intro w hSw; (try dsimp only at hSw); go_simp; (try with_reducible rfl))
            try simp only [put_laws]
            refine wpAnyH_take (i := 4) (v := ?vq1_4) (by simp only [List.getElem?_toArray, List.getElem?_cons_succ, List.getElem?_cons_zero]; rfl) (by kernel_rfl) (by kernel_rfl) (by kernel_rfl) (by exact fun _ _ _ h => h) (Or.inl ⟨by rfl, ?hq1_4⟩) hHeld ?rq1_4
            case hq1_4 => (intro w hSw; (try dsimp only at hSw); go_simp; (try with_reducible rfl))
            try simp only [put_laws]
            refine wpAnyH_take (i := 5) (v := undef) (by simp only [List.getElem?_toArray, List.getElem?_cons_succ, List.getElem?_cons_zero]; rfl) (by kernel_rfl) (by kernel_rfl) (by kernel_rfl) (by exact fun _ _ _ h => h) (Or.inr ⟨by rfl, rfl⟩) hHeld ?_
            try simp only [put_laws]
            refine wpAnyH_take (i := 6) (v := undef) (by simp only [List.getElem?_toArray, List.getElem?_cons_succ, List.getElem?_cons_zero]; rfl) (by kernel_rfl) (by kernel_rfl) (by kernel_rfl) (by exact fun _ _ _ h => h) (Or.inr ⟨by rfl, rfl⟩) hHeld ?_
            try simp only [put_laws]
            refine wpAnyH_take (i := 7) (v := undef) (by simp only [List.getElem?_toArray, List.getElem?_cons_succ, List.getElem?_cons_zero]; rfl) (by kernel_rfl) (by kernel_rfl) (by kernel_rfl) (by exact fun _ _ _ h => h) (Or.inr ⟨by rfl, rfl⟩) hHeld ?_
            try simp only [put_laws]
            refine wpAnyH_take (i := 8) (v := undef) (by simp only [List.getElem?_toArray, List.getElem?_cons_succ, List.getElem?_cons_zero]; rfl) (by kernel_rfl) (by kernel_rfl) (by kernel_rfl) (by exact fun _ _ _ h => h) (Or.inr ⟨by rfl, rfl⟩) hHeld ?_
            try simp only [put_laws]
            refine wpAnyH_take (i := 9) (v := undef) (by simp only [List.getElem?_toArray, List.getElem?_cons_succ, List.getElem?_cons_zero]; rfl) (by kernel_rfl) (by kernel_rfl) (by kernel_rfl) (by exact fun _ _ _ h => h) (Or.inr ⟨by rfl, rfl⟩) hHeld ?_
            try simp only [put_laws]
            refine wpAnyH_take (i := 10) (v := undef) (by simp only [List.getElem?_toArray, List.getElem?_cons_succ, List.getElem?_cons_zero]; rfl) (by kernel_rfl) (by kernel_rfl) (by kernel_rfl) (by exact fun _ _ _ h => h) (Or.inr ⟨by rfl, rfl⟩) hHeld ?_
            try simp only [put_laws]
            refine wpAnyH_take (i := 11) (v := undef) (by simp only [List.getElem?_toArray, List.getElem?_cons_succ, List.getElem?_cons_zero]; rfl) (by kernel_rfl) (by kernel_rfl) (by kernel_rfl) (by exact fun _ _ _ h => h) (Or.inr ⟨by rfl, rfl⟩) hHeld ?_
            try simp only [put_laws]
            refine wpAnyH_take (i := 12) (v := undef) (by simp only [List.getElem?_toArray, List.getElem?_cons_succ, List.getElem?_cons_zero]; rfl) (by kernel_rfl) (by kernel_rfl) (by kernel_rfl) (by exact fun _ _ _ h => h) (Or.inr ⟨by rfl, rfl⟩) hHeld ?_
            try simp only [put_laws]
            refine wpAnyH_take (i := 13) (v := undef) (by simp only [List.getElem?_toArray, List.getElem?_cons_succ, List.getElem?_cons_zero]; rfl) (by kernel_rfl) (by kernel_rfl) (by kernel_rfl) (by exact fun _ _ _ h => h) (Or.inr ⟨by rfl, rfl⟩) hHeld ?_
            try simp only [put_laws]
            refine wpAnyH_take (i := 14) (v := undef) (by simp only [List.getElem?_toArray, List.getElem?_cons_succ, List.getElem?_cons_zero]; rfl) (by kernel_rfl) (by kernel_rfl) (by kernel_rfl) (by exact fun _ _ _ h => h) (Or.inr ⟨by rfl, rfl⟩) hHeld ?_
            try simp only [put_laws]
            refine wpAnyH_take (i := 15) (v := undef) (by simp only [List.getElem?_toArray, List.getElem?_cons_succ, List.getElem?_cons_zero]; rfl) (by kernel_rfl) (by kernel_rfl) (by kernel_rfl) (by exact fun _ _ _ h => h) (Or.inr ⟨by rfl, rfl⟩) hHeld ?_
            try simp only [put_laws]
            refine wpAnyH_take (i := 16) (v := undef) (by simp only [List.getElem?_toArray, List.getElem?_cons_succ, List.getElem?_cons_zero]; rfl) (by kernel_rfl) (by kernel_rfl) (by kernel_rfl) (by exact fun _ _ _ h => h) (Or.inr ⟨by rfl, rfl⟩) hHeld ?_
            try simp only [put_laws]
            refine wpAnyH_take (i := 17) (v := undef) (by simp only [List.getElem?_toArray, List.getElem?_cons_succ, List.getElem?_cons_zero]; rfl) (by kernel_rfl) (by kernel_rfl) (by kernel_rfl) (by exact fun _ _ _ h => h) (Or.inr ⟨by rfl, rfl⟩) hHeld ?_
            try simp only [put_laws]
            refine wpAnyH_take (i := 18) (v := undef) (by simp only [List.getElem?_toArray, List.getElem?_cons_succ, List.getElem?_cons_zero]; rfl) (by kernel_rfl) (by kernel_rfl) (by kernel_rfl) (by exact fun _ _ _ h => h) (Or.inr ⟨by rfl, rfl⟩) hHeld ?_
            try simp only [put_laws]
            refine wpAnyH_take (i := 19) (v := undef) (by simp only [List.getElem?_toArray, List.getElem?_cons_succ, List.getElem?_cons_zero]; rfl) (by kernel_rfl) (by kernel_rfl) (by kernel_rfl) (by exact fun _ _ _ h => h) (Or.inr ⟨by rfl, rfl⟩) hHeld ?_
            try simp only [put_laws]
            refine wpAnyH_take (i := 20) (v := ?vq1_20) (by simp only [List.getElem?_toArray, List.getElem?_cons_succ, List.getElem?_cons_zero]; rfl) (by kernel_rfl) (by kernel_rfl) (by kernel_rfl) (by exact fun _ _ _ h => h) (Or.inl ⟨by rfl, ?hq1_20⟩) hHeld ?rq1_20
            case hq1_20 => (intro w hSw; (try dsimp only at hSw); go_simp; (try with_reducible rfl))
            try simp only [put_laws]
            refine wpAnyH_done (by kernel_rfl) ?_ _
            clear hHeld c0 c1 c2 c3 hhas hI8 hI8d hx8
            go_wp2
            go_roundw
            case rel => exact ⟨j + 1, by omega, by go_num, by rw [HJ.out], hbj.drew⟩
            case measure => simp [intOf]; omega
          · have hhas : hasB (toI ((downK cs n).take k)) (j : Int) = false := by rw [hasB_toI]; simpa using hout
            have HOUT := Lib.hid hout
            clear hout
            cases hbest : bestJ cs ((downK cs n).take k) j with
            | none =>
              have HJ := Lib.hid (bestJ_first HOUT.out hbest)
              rw [show bvI none = -1 from rfl]
              clear hbest x1 x2 x3 x4 x5 x6
              go_upto_region 9 with fail
              refine wp_region_held_drew (S := (fun w' => w'.cell? ⟨g, off + j * 4, none⟩ = some (.int .i64 x.f) ∧ w'.cell? ⟨g, off + j * 4 + 1, none⟩ = some (.int .i64 x.t) ∧ w'.cell? ⟨g, off + j * 4 + 2, none⟩ = some (.int .i64 x.r) ∧ w'.cell? ⟨g, off + j * 4 + 3, none⟩ = some (.int .i64 x.u))) (by kernel_rfl) ?_ (fun hHeld => ?_)
              · (try dsimp only); exact ⟨c0, c1, c2, c3⟩
              refine wpAnyH_take (i := 0) (v := ?vq2_0) (by simp only [List.getElem?_toArray, List.getElem?_cons_zero]; rfl) (by kernel_rfl) (by kernel_rfl) (by kernel_rfl) (by exact fun _ _ _ h => h) (Or.inl ⟨by rfl, ?hq2_0⟩) hHeld ?rq2_0
              case hq2_0 => (intro w hSw; (try dsimp only at hSw); go_simp; (try with_reducible rfl))
              try simp only [put_laws]
              refine wpAnyH_take (i := 1) (v := ?vq2_1) (by simp only [List.getElem?_toArray, List.getElem?_cons_succ, List.getElem?_cons_zero]; rfl) (by kernel_rfl) (by kernel_rfl) (by kernel_rfl) (by exact fun _ _ _ h => h) (Or.inl ⟨by rfl, ?hq2_1⟩) hHeld ?rq2_1
              case hq2_1 => (intro w hSw; (try dsimp only at hSw); go_simp; (try with_reducible rfl))
              try simp only [put_laws]
              refine wpAnyH_ready (rs := [2]) (by kernel_rfl) (by simp) ?_
              refine AllReadyH.cons (by simp only [List.getElem?_toArray, List.getElem?_cons_succ, List.getElem?_cons_zero]; rfl) (fun K hK => ?_) AllReadyH.nil
              go_simp
              refine (l1Has_no _ k cap _ (j : Int) _ (by omega) hI8d hhas).mono ?_; rintro e w9 ⟨rfl, rfl⟩
              refine hK.out _ _ ?_ (fun hHeld => ?_)
              · (try dsimp only); exact ⟨c0, c1, c2, c3⟩
              clear hK K
              try simp only [put_laws]
              refine wpAnyH_take (i := 3) (v := ?vq2_3) (by simp only [List.getElem?_toArray, List.getElem?_cons_succ, List.getElem?_cons_zero]; rfl) (by kernel_rfl) (by kernel_rfl) (by kernel_rfl) (by exact fun _ _ _ h => h) (Or.inl ⟨by rfl, ?hq2_3⟩) hHeld ?rq2_3
              case hq2_3 => (intro w hSw; (try dsimp only at hSw); go_simp; (try with_reducible rfl))
              try simp only [put_laws]
              refine wpAnyH_take (i := 4) (v := ?vq2_4) (by simp only [List.getElem?_toArray, List.getElem?_cons_succ, List.getElem?_cons_zero]; rfl) (by kernel_rfl) (by kernel_rfl) (by kernel_rfl) (by exact fun _ _ _ h => h) (Or.inl ⟨by rfl, ?hq2_4⟩) hHeld ?rq2_4
              case hq2_4 => (intro w hSw; (try dsimp only at hSw); go_simp; (try with_reducible rfl))
              try simp only [put_laws]
              refine wpAnyH_take (i := 5) (v := ?vq2_5) (by simp only [List.getElem?_toArray, List.getElem?_cons_succ, List.getElem?_cons_zero]; rfl) (by kernel_rfl) (by kernel_rfl) (by kernel_rfl) (by exact fun _ _ _ h => h) (Or.inl ⟨by rfl, ?hq2_5⟩) hHeld ?rq2_5
              case hq2_5 => (intro w hSw; (try dsimp only at hSw); go_simp; (try with_reducible rfl))
              try simp only [put_laws]
              refine wpAnyH_take (i := 6) (v := ?vq2_6) (by simp only [List.getElem?_toArray, List.getElem?_cons_succ, List.getElem?_cons_zero]; rfl) (by kernel_rfl) (by kernel_rfl) (by kernel_rfl) (by exact fun _ _ _ h => h) (Or.inl ⟨by rfl, ?hq2_6⟩) hHeld ?rq2_6
              case hq2_6 => (intro w hSw; (try dsimp only at hSw); go_simp; (try with_reducible rfl))
              try simp only [put_laws]
              refine wpAnyH_take (i := 7) (v := ?vq2_7) (by simp only [List.getElem?_toArray, List.getElem?_cons_succ, List.getElem?_cons_zero]; rfl) (by kernel_rfl) (by kernel_rfl) (by kernel_rfl) (by exact fun _ _ _ h => h) (Or.inl ⟨by rfl, ?hq2_7⟩) hHeld ?rq2_7
              case hq2_7 => (intro w hSw; (try dsimp only at hSw); go_simp; (try with_reducible rfl))
              try simp only [put_laws]
              refine wpAnyH_take (i := 8) (v := undef) (by simp only [List.getElem?_toArray, List.getElem?_cons_succ, List.getElem?_cons_zero]; rfl) (by kernel_rfl) (by kernel_rfl) (by kernel_rfl) (by exact fun _ _ _ h => h) (Or.inr ⟨by rfl, rfl⟩) hHeld ?_
              try simp only [put_laws]
              refine wpAnyH_take (i := 9) (v := undef) (by simp only [List.getElem?_toArray, List.getElem?_cons_succ, List.getElem?_cons_zero]; rfl) (by kernel_rfl) (by kernel_rfl) (by kernel_rfl) (by exact fun _ _ _ h => h) (Or.inr ⟨by rfl, rfl⟩) hHeld ?_
              try simp only [put_laws]
              refine wpAnyH_take (i := 10) (v := undef) (by simp only [List.getElem?_toArray, List.getElem?_cons_succ, List.getElem?_cons_zero]; rfl) (by kernel_rfl) (by kernel_rfl) (by kernel_rfl) (by exact fun _ _ _ h => h) (Or.inr ⟨by rfl, rfl⟩) hHeld ?_
              try simp only [put_laws]
              refine wpAnyH_take (i := 11) (v := undef) (by simp only [List.getElem?_toArray, List.getElem?_cons_succ, List.getElem?_cons_zero]; rfl) (by kernel_rfl) (by kernel_rfl) (by kernel_rfl) (by exact fun _ _ _ h => h) (Or.inr ⟨by rfl, rfl⟩) hHeld ?_
              try simp only [put_laws]
              refine wpAnyH_take (i := 12) (v := undef) (by simp only [List.getElem?_toArray, List.getElem?_cons_succ, List.getElem?_cons_zero]; rfl) (by kernel_rfl) (by kernel_rfl) (by kernel_rfl) (by exact fun _ _ _ h => h) (Or.inr ⟨by rfl, rfl⟩) hHeld ?_
              try simp only [put_laws]
              refine wpAnyH_take (i := 13) (v := undef) (by simp only [List.getElem?_toArray, List.getElem?_cons_succ, List.getElem?_cons_zero]; rfl) (by kernel_rfl) (by kernel_rfl) (by kernel_rfl) (by exact fun _ _ _ h => h) (Or.inr ⟨by rfl, rfl⟩) hHeld ?_
              try simp only [put_laws]
              refine wpAnyH_take (i := 14) (v := undef) (by simp only [List.getElem?_toArray, List.getElem?_cons_succ, List.getElem?_cons_zero]; rfl) (by kernel_rfl) (by kernel_rfl) (by kernel_rfl) (by exact fun _ _ _ h => h) (Or.inr ⟨by rfl, rfl⟩) hHeld ?_
              try simp only [put_laws]
              refine wpAnyH_take (i := 15) (v := undef) (by simp only [List.getElem?_toArray, List.getElem?_cons_succ, List.getElem?_cons_zero]; rfl) (by kernel_rfl) (by kernel_rfl) (by kernel_rfl) (by exact fun _ _ _ h => h) (Or.inr ⟨by rfl, rfl⟩) hHeld ?_
              try simp only [put_laws]
              refine wpAnyH_take (i := 16) (v := undef) (by simp only [List.getElem?_toArray, List.getElem?_cons_succ, List.getElem?_cons_zero]; rfl) (by kernel_rfl) (by kernel_rfl) (by kernel_rfl) (by exact fun _ _ _ h => h) (Or.inr ⟨by rfl, rfl⟩) hHeld ?_
              try simp only [put_laws]
              refine wpAnyH_take (i := 17) (v := undef) (by simp only [List.getElem?_toArray, List.getElem?_cons_succ, List.getElem?_cons_zero]; rfl) (by kernel_rfl) (by kernel_rfl) (by kernel_rfl) (by exact fun _ _ _ h => h) (Or.inr ⟨by rfl, rfl⟩) hHeld ?_
              try simp only [put_laws]
              refine wpAnyH_take (i := 18) (v := undef) (by simp only [List.getElem?_toArray, List.getElem?_cons_succ, List.getElem?_cons_zero]; rfl) (by kernel_rfl) (by kernel_rfl) (by kernel_rfl) (by exact fun _ _ _ h => h) (Or.inr ⟨by rfl, rfl⟩) hHeld ?_
              try simp only [put_laws]
              refine wpAnyH_take (i := 19) (v := ?vq2_19) (by simp only [List.getElem?_toArray, List.getElem?_cons_succ, List.getElem?_cons_zero]; rfl) (by kernel_rfl) (by kernel_rfl) (by kernel_rfl) (by exact fun _ _ _ h => h) (Or.inl ⟨by rfl, ?hq2_19⟩) hHeld ?rq2_19
              case hq2_19 => (intro w hSw; (try dsimp only at hSw); go_simp; (try with_reducible rfl))
              try simp only [put_laws]
              refine wpAnyH_take (i := 20) (v := ?vq2_20) (by simp only [List.getElem?_toArray, List.getElem?_cons_succ, List.getElem?_cons_zero]; rfl) (by kernel_rfl) (by kernel_rfl) (by kernel_rfl) (by exact fun _ _ _ h => h) (Or.inl ⟨by rfl, ?hq2_20⟩) hHeld ?rq2_20
              case hq2_20 => (intro w hSw; (try dsimp only at hSw); go_simp; (try with_reducible rfl))
              try simp only [put_laws]
              refine wpAnyH_done (by kernel_rfl) ?_ _
              clear hHeld c0 c1 c2 c3 hhas hI8 hI8d hx8
              go_wp2
              go_roundw
              case rel => exact ⟨j + 1, by omega, by go_num, by rw [HJ.out]; rfl, hbj.drew⟩
              case measure => simp [intOf]; omega
            | some b =>
              have hbl := bestJ_lt hbest
              have HB := Lib.hid hbest
              rw [show bvI (some b) = (b : Int) from rfl]
              clear hbest
              obtain ⟨y, g', off', HY, hey, -, d0, d1, d2, d3⟩ := hx8.get (show b < n by omega)
              injection hey with hey; injection hey with e1 e2; subst e1; subst e2
              obtain ⟨-, ⟨y1, y2⟩, ⟨y3, y4⟩, y5, y6⟩ := car_range (carsB_get HC.out HY)
              have HSY := Lib.hid (szAt_get HY)
              clear HY
              have hlb : (b : Int) < (n : Int) := by omega
              have hb0 : (0 : Int) ≤ (b : Int) := by omega
              have hbneg : decide ((b : Int) < 0) = false := by simp
              obtain ⟨sx, hsx⟩ : ∃ sx : Int, szC x = sx := ⟨_, rfl⟩
              obtain ⟨sy, hsy⟩ : ∃ sy : Int, szC y = sy := ⟨_, rfl⟩
              have HX1 := Lib.hid hsx
              have HY1 := Lib.hid hsy
              clear hsx hsy
              go_upto_region 9 with fail
              refine wp_region_held_drew (S := (fun w' => w'.cell? ⟨g, off + j * 4, none⟩ = some (.int .i64 x.f) ∧ w'.cell? ⟨g, off + j * 4 + 1, none⟩ = some (.int .i64 x.t) ∧ w'.cell? ⟨g, off + j * 4 + 2, none⟩ = some (.int .i64 x.r) ∧ w'.cell? ⟨g, off + j * 4 + 3, none⟩ = some (.int .i64 x.u) ∧ w'.cell? ⟨g, off + b * 4, none⟩ = some (.int .i64 y.f) ∧ w'.cell? ⟨g, off + b * 4 + 1, none⟩ = some (.int .i64 y.t) ∧ w'.cell? ⟨g, off + b * 4 + 2, none⟩ = some (.int .i64 y.r) ∧ w'.cell? ⟨g, off + b * 4 + 3, none⟩ = some (.int .i64 y.u))) (by kernel_rfl) ?_ (fun hHeld => ?_)
              · (try dsimp only); first | exact ⟨c0, c1, c2, c3, d0, d1, d2, d3⟩ | exact k8 | exact k9
              refine wpAnyH_take (i := 0) (v := ?vq3_0) (by simp only [List.getElem?_toArray, List.getElem?_cons_zero]; rfl) (by kernel_rfl) (by kernel_rfl) (by kernel_rfl) (by exact fun _ _ _ h => h) (Or.inl ⟨by rfl, ?hq3_0⟩) hHeld ?rq3_0
              case hq3_0 => (intro w hSw; (try dsimp only at hSw); go_simp; (try with_reducible rfl))
              try simp only [put_laws]
              refine wpAnyH_take (i := 1) (v := ?vq3_1) (by simp only [List.getElem?_toArray, List.getElem?_cons_succ, List.getElem?_cons_zero]; rfl) (by kernel_rfl) (by kernel_rfl) (by kernel_rfl) (by exact fun _ _ _ h => h) (Or.inl ⟨by rfl, ?hq3_1⟩) hHeld ?rq3_1
              case hq3_1 => (intro w hSw; (try dsimp only at hSw); go_simp; (try with_reducible rfl))
              try simp only [put_laws]
              refine wpAnyH_ready (rs := [2]) (by kernel_rfl) (by simp) ?_
              refine AllReadyH.cons (by simp only [List.getElem?_toArray, List.getElem?_cons_succ, List.getElem?_cons_zero]; rfl) (fun K hK => ?_) AllReadyH.nil
              go_simp
              refine (l1Has_no _ k cap _ (j : Int) _ (by omega) hI8d hhas).mono ?_; rintro e w9 ⟨rfl, rfl⟩
              refine hK.out _ _ ?_ (fun hHeld => ?_)
              · (try dsimp only); first | exact ⟨c0, c1, c2, c3, d0, d1, d2, d3⟩ | exact k8 | exact k9
              clear hK K
              try simp only [put_laws]
              refine wpAnyH_take (i := 3) (v := ?vq3_3) (by simp only [List.getElem?_toArray, List.getElem?_cons_succ, List.getElem?_cons_zero]; rfl) (by kernel_rfl) (by kernel_rfl) (by kernel_rfl) (by exact fun _ _ _ h => h) (Or.inl ⟨by rfl, ?hq3_3⟩) hHeld ?rq3_3
              case hq3_3 => (intro w hSw; (try dsimp only at hSw); go_simp; (try with_reducible rfl))
              try simp only [put_laws]
              refine wpAnyH_take (i := 4) (v := ?vq3_4) (by simp only [List.getElem?_toArray, List.getElem?_cons_succ, List.getElem?_cons_zero]; rfl) (by kernel_rfl) (by kernel_rfl) (by kernel_rfl) (by exact fun _ _ _ h => h) (Or.inl ⟨by rfl, ?hq3_4⟩) hHeld ?rq3_4
              case hq3_4 => (intro w hSw; (try dsimp only at hSw); go_simp; (try with_reducible rfl))
              try simp only [put_laws]
              refine wpAnyH_take (i := 5) (v := ?vq3_5) (by simp only [List.getElem?_toArray, List.getElem?_cons_succ, List.getElem?_cons_zero]; rfl) (by kernel_rfl) (by kernel_rfl) (by kernel_rfl) (by exact fun _ _ _ h => h) (Or.inl ⟨by rfl, ?hq3_5⟩) hHeld ?rq3_5
              case hq3_5 => (intro w hSw; (try dsimp only at hSw); go_simp; (try with_reducible rfl))
              try simp only [put_laws]
              refine wpAnyH_take (i := 6) (v := ?vq3_6) (by simp only [List.getElem?_toArray, List.getElem?_cons_succ, List.getElem?_cons_zero]; rfl) (by kernel_rfl) (by kernel_rfl) (by kernel_rfl) (by exact fun _ _ _ h => h) (Or.inl ⟨by rfl, ?hq3_6⟩) hHeld ?rq3_6
              case hq3_6 => (intro w hSw; (try dsimp only at hSw); go_simp; (try with_reducible rfl))
              try simp only [put_laws]
              refine wpAnyH_take (i := 7) (v := ?vq3_7) (by simp only [List.getElem?_toArray, List.getElem?_cons_succ, List.getElem?_cons_zero]; rfl) (by kernel_rfl) (by kernel_rfl) (by kernel_rfl) (by exact fun _ _ _ h => h) (Or.inl ⟨by rfl, ?hq3_7⟩) hHeld ?rq3_7
              case hq3_7 => (intro w hSw; (try dsimp only at hSw); go_simp; (try with_reducible rfl))
              try simp only [put_laws]
              refine wpAnyH_take (i := 8) (v := ?vq3_8) (by simp only [List.getElem?_toArray, List.getElem?_cons_succ, List.getElem?_cons_zero]; rfl) (by kernel_rfl) (by kernel_rfl) (by kernel_rfl) (by exact fun _ _ _ h => h) (Or.inl ⟨by rfl, ?hq3_8⟩) hHeld ?rq3_8
              case hq3_8 => (intro w hSw; (try dsimp only at hSw); go_simp; (try with_reducible rfl))
              try simp only [put_laws]
              refine wpAnyH_take (i := 9) (v := ?vq3_9) (by simp only [List.getElem?_toArray, List.getElem?_cons_succ, List.getElem?_cons_zero]; rfl) (by kernel_rfl) (by kernel_rfl) (by kernel_rfl) (by exact fun _ _ _ h => h) (Or.inl ⟨by rfl, ?hq3_9⟩) hHeld ?rq3_9
              case hq3_9 => (intro w hSw; (try dsimp only at hSw); go_simp; (try with_reducible rfl))
              try simp only [put_laws]
              refine wpAnyH_take (i := 10) (v := ?vq3_10) (by simp only [List.getElem?_toArray, List.getElem?_cons_succ, List.getElem?_cons_zero]; rfl) (by kernel_rfl) (by kernel_rfl) (by kernel_rfl) (by exact fun _ _ _ h => h) (Or.inl ⟨by rfl, ?hq3_10⟩) hHeld ?rq3_10
              case hq3_10 => (intro w hSw; (try dsimp only at hSw); go_simp; (try with_reducible rfl))
              try simp only [put_laws]
              refine wpAnyH_take (i := 11) (v := ?vq3_11) (by simp only [List.getElem?_toArray, List.getElem?_cons_succ, List.getElem?_cons_zero]; rfl) (by kernel_rfl) (by kernel_rfl) (by kernel_rfl) (by exact fun _ _ _ h => h) (Or.inl ⟨by rfl, ?hq3_11⟩) hHeld ?rq3_11
              case hq3_11 => (intro w hSw; (try dsimp only at hSw); go_simp; (try with_reducible rfl))
              try simp only [put_laws]
              refine wpAnyH_take (i := 13) (v := ?vq3_13) (by simp only [List.getElem?_toArray, List.getElem?_cons_succ, List.getElem?_cons_zero]; rfl) (by kernel_rfl) (by kernel_rfl) (by kernel_rfl) (by exact fun _ _ _ h => h) (Or.inl ⟨by rfl, ?hq3_13⟩) hHeld ?rq3_13
              case hq3_13 => (intro w hSw; (try dsimp only at hSw); go_simp; (try with_reducible rfl))
              try simp only [put_laws]
              refine wpAnyH_take (i := 14) (v := ?vq3_14) (by simp only [List.getElem?_toArray, List.getElem?_cons_succ, List.getElem?_cons_zero]; rfl) (by kernel_rfl) (by kernel_rfl) (by kernel_rfl) (by exact fun _ _ _ h => h) (Or.inl ⟨by rfl, ?hq3_14⟩) hHeld ?rq3_14
              case hq3_14 => (intro w hSw; (try dsimp only at hSw); go_simp; (try with_reducible rfl))
              try simp only [put_laws]
              refine wpAnyH_take (i := 15) (v := ?vq3_15) (by simp only [List.getElem?_toArray, List.getElem?_cons_succ, List.getElem?_cons_zero]; rfl) (by kernel_rfl) (by kernel_rfl) (by kernel_rfl) (by exact fun _ _ _ h => h) (Or.inl ⟨by rfl, ?hq3_15⟩) hHeld ?rq3_15
              case hq3_15 => (intro w hSw; (try dsimp only at hSw); go_simp; (try with_reducible rfl))
              try simp only [put_laws]
              refine wpAnyH_take (i := 16) (v := ?vq3_16) (by simp only [List.getElem?_toArray, List.getElem?_cons_succ, List.getElem?_cons_zero]; rfl) (by kernel_rfl) (by kernel_rfl) (by kernel_rfl) (by exact fun _ _ _ h => h) (Or.inl ⟨by rfl, ?hq3_16⟩) hHeld ?rq3_16
              case hq3_16 => (intro w hSw; (try dsimp only at hSw); go_simp; (try with_reducible rfl))
              try simp only [put_laws]
              refine wpAnyH_ready (rs := [12]) (by kernel_rfl) (by simp) ?_
              refine AllReadyH.cons (by simp only [List.getElem?_toArray, List.getElem?_cons_succ, List.getElem?_cons_zero]; rfl) (fun K hK => ?_) AllReadyH.nil
              go_simp
              refine (l3Size_any x _ x1 x2 x3 x4 x5 x6).mono ?_; rintro e w9 ⟨rfl, hb9⟩; rw [HX1.out]; have k8 := (And.intro ((hb9.cell (p := ⟨g, off + j * 4, none⟩) hgc).trans c0) (And.intro ((hb9.cell (p := ⟨g, off + j * 4 + 1, none⟩) hgc).trans c1) (And.intro ((hb9.cell (p := ⟨g, off + j * 4 + 2, none⟩) hgc).trans c2) (And.intro ((hb9.cell (p := ⟨g, off + j * 4 + 3, none⟩) hgc).trans c3) (And.intro ((hb9.cell (p := ⟨g, off + b * 4, none⟩) hgc).trans d0) (And.intro ((hb9.cell (p := ⟨g, off + b * 4 + 1, none⟩) hgc).trans d1) (And.intro ((hb9.cell (p := ⟨g, off + b * 4 + 2, none⟩) hgc).trans d2) ((hb9.cell (p := ⟨g, off + b * 4 + 3, none⟩) hgc).trans d3))))))))
              refine hK.out _ _ ?_ (fun hHeld => ?_)
              · (try dsimp only); first | exact ⟨c0, c1, c2, c3, d0, d1, d2, d3⟩ | exact k8 | exact k9
              clear hK K
              try simp only [put_laws]
              refine wpAnyH_ready (rs := [17]) (by kernel_rfl) (by simp) ?_
              refine AllReadyH.cons (by simp only [List.getElem?_toArray, List.getElem?_cons_succ, List.getElem?_cons_zero]; rfl) (fun K hK => ?_) AllReadyH.nil
              go_simp
              refine (l3Size_any y _ y1 y2 y3 y4 y5 y6).mono ?_; rintro e wa ⟨rfl, hba⟩; rw [HY1.out]; have hbb := below_next hb9 hba; have k9 := (And.intro ((hbb.cell (p := ⟨g, off + j * 4, none⟩) hgc).trans c0) (And.intro ((hbb.cell (p := ⟨g, off + j * 4 + 1, none⟩) hgc).trans c1) (And.intro ((hbb.cell (p := ⟨g, off + j * 4 + 2, none⟩) hgc).trans c2) (And.intro ((hbb.cell (p := ⟨g, off + j * 4 + 3, none⟩) hgc).trans c3) (And.intro ((hbb.cell (p := ⟨g, off + b * 4, none⟩) hgc).trans d0) (And.intro ((hbb.cell (p := ⟨g, off + b * 4 + 1, none⟩) hgc).trans d1) (And.intro ((hbb.cell (p := ⟨g, off + b * 4 + 2, none⟩) hgc).trans d2) ((hbb.cell (p := ⟨g, off + b * 4 + 3, none⟩) hgc).trans d3))))))))
              refine hK.out _ _ ?_ (fun hHeld => ?_)
              · (try dsimp only); first | exact ⟨c0, c1, c2, c3, d0, d1, d2, d3⟩ | exact k8 | exact k9
              clear hK K
              try simp only [put_laws]
              refine wpAnyH_take (i := 18) (v := ?vq3_18) (by simp only [List.getElem?_toArray, List.getElem?_cons_succ, List.getElem?_cons_zero]; rfl) (by kernel_rfl) (by kernel_rfl) (by kernel_rfl) (by exact fun _ _ _ h => h) (Or.inl ⟨by rfl, ?hq3_18⟩) hHeld ?rq3_18
              case hq3_18 => (intro w hSw; (try dsimp only at hSw); go_simp; (try with_reducible rfl))
              try simp only [put_laws]
              refine wpAnyH_take (i := 19) (v := ?vq3_19) (by simp only [List.getElem?_toArray, List.getElem?_cons_succ, List.getElem?_cons_zero]; rfl) (by kernel_rfl) (by kernel_rfl) (by kernel_rfl) (by exact fun _ _ _ h => h) (Or.inl ⟨by rfl, ?hq3_19⟩) hHeld ?rq3_19
              case hq3_19 => (intro w hSw; (try dsimp only at hSw); go_simp; (try with_reducible rfl))
              try simp only [put_laws]
              refine wpAnyH_take (i := 20) (v := ?vq3_20) (by simp only [List.getElem?_toArray, List.getElem?_cons_succ, List.getElem?_cons_zero]; rfl) (by kernel_rfl) (by kernel_rfl) (by kernel_rfl) (by exact fun _ _ _ h => h) (Or.inl ⟨by rfl, ?hq3_20⟩) hHeld ?rq3_20
              case hq3_20 => (intro w hSw; (try dsimp only at hSw); go_simp; (try with_reducible rfl))
              try simp only [put_laws]
              refine wpAnyH_done (by kernel_rfl) ?_ _
              have hbb := below_next hb9 hba
              have hbn : Below w2.heap.size w2 wa := hbj.trans ((((Below.refl w8.heap.size w8).drew).trans (hbb.mono (Nat.le_refl _))).mono hbj.size)
              clear hHeld c0 c1 c2 c3 d0 d1 d2 d3 hhas hI8 hI8d hx8 k8 k9 hb9 hba hbb x1 x2 x3 x4 x5 x6 y1 y2 y3 y4 y5 y6
              by_cases hs : sy < sx
              · have hds : decide (sy < sx) = true := by simpa using hs
                have HJ := Lib.hid (bestJ_yes HOUT.out HB.out (by rw [HSX.out, HSY.out, HX1.out, HY1.out]; exact hs))
                clear hs
                try rw [hds]
                go_wp2
                go_roundw
                case rel => exact ⟨j + 1, by omega, by go_num, by rw [HJ.out]; rfl, hbn⟩
                case measure => simp [intOf]; omega
              · have hds : decide (sy < sx) = false := by simpa using hs
                have HJ := Lib.hid (bestJ_no HOUT.out HB.out (by rw [HSX.out, HSY.out, HX1.out, HY1.out]; exact hs))
                clear hs
                try rw [hds]
                go_wp2
                go_roundw
                case rel => exact ⟨j + 1, by omega, by go_num, by rw [HJ.out]; rfl, hbn⟩
                case measure => simp [intOf]; omega
        · obtain rfl : j = n := by omega
          obtain ⟨d, hd, htake⟩ := bestJ_next (cs := cs) (n := j) hlt
          rw [hd, show bvI (some d) = (d : Int) from rfl]
          have HT := Lib.hid htake
          have hB8 := hB2.trans (hbj.mono hB2.size)
          clear hd htake hI8 hI8d hx2 hO2
          go_wp2_with (at_builtin; refine wpList_more (base := w.heap.size) rfl (.tmp 46) (.tmp 48) rfl hB8.size hO8 (d : Int) rfl rfl (by omega) ?_; intro ga capa wa hOa hba)
          go_roundw
          case rel => exact ⟨k + 1, ga, capa, by omega, fun _ => HC.out, by go_num, rfl, by rw [HT.out]; unfold toI at hOa ⊢; rw [List.map_append]; exact hOa, hB8.trans hba⟩
          case measure => simp [intOf]; omega
    · obtain rfl : k = n := by omega
      have hkd : decide ((k : Int) < (k : Int)) = false := by simp
      go_wp2
      go_ret
      have hlen := HLN.out
      have hD := downK_len (downK_is cs k)
      rw [List.take_of_length_le (by omega)] at hO
      by_cases h0 : 0 < k
      · rw [downL_yes (HKC.out h0) (l := downK cs k) (by rw [hlen]; exact downK_is cs k)]
        exact ownR_row hO (Below.refl _ _) hbr
      · obtain rfl : k = 0 := by omega
        obtain rfl := List.length_eq_zero_iff.1 hlen
        exact ownR_row hO (Below.refl _ _) hbr
end Go.Proofs.YtmmaeninlhbaaaaDoor
