/-
  Plain laws of chapter 4: costs add up, cuts are bounds, the least feed. No program is in sight here.
-/
import Derived.Test.YtobkljhbmeglpaaDoorCost
import Derived.Test.YtobkljhbmeglpaaDoorTight
namespace Go.Proofs.YtobkljhbmeglpaaDoor
open Go.ChangeShapes Go.WideShapes Go.ChangeAt Go.RowKit

theorem selS_noneP {b : Bool} {s : Nat} {xs : List Int} : ∀ k : Nat, (∀ j, j < k → s.testBit j ≠ b) → selS b s xs k = 0
  | 0, _ => rfl
  | k + 1, h => by
    simp only [selS]
    rw [selS_noneP k (fun j hj => h j (by omega)), if_neg (h k (by omega))]; rfl
theorem selS_zeroP {b : Bool} {s : Nat} {xs : List Int} (h : ∀ x ∈ xs, x = 0) : ∀ k : Nat, selS b s xs k = 0
  | 0 => rfl
  | k + 1 => by
    simp only [selS]
    have hg : xs.getD k 0 = 0 := by
      rw [List.getD_eq_getElem?_getD]
      cases hk : xs[k]? with
      | none => rfl
      | some x => simpa using h x (List.mem_of_getElem? hk)
    rw [selS_zeroP h k, hg]; simp
theorem bits63P : ∀ j : Nat, j < 6 → (63 : Nat).testBit j = true := by decide
theorem cutW_allP {ws : List Int} {rs : List (List Int)} (hw : small ws) (hr : rowsSmall rs) : ∀ k : Nat, cutW 63 ws rs k = 0
  | 0 => rfl
  | k + 1 => by
    simp only [cutW]
    have hg := small_get hw k
    have hl := (row_get hr k).2
    rw [cutW_allP hw hr k, selS_noneP _ (fun j hj => by rw [bits63P j (by omega)]; simp)]
    omega
-- costs
theorem dotI_comm (xs ys : List Int) : ∀ k : Nat, dotI xs ys k = dotI ys xs k
  | 0 => rfl
  | k + 1 => by simp only [dotI]; rw [dotI_comm xs ys k, Int.mul_comm]
theorem dotI_set (xs ys : List Int) (h : Nat) (z : Int) (hl : h < ys.length) : ∀ k : Nat, dotI xs (ys.set h z) k = dotI xs ys k + if h < k then xs.getD h 0 * (z - ys.getD h 0) else 0
  | 0 => by simp [dotI]
  | k + 1 => by
    have ih := dotI_set xs ys h z hl k
    simp only [dotI, ih]
    by_cases hk : h = k
    · subst hk
      have e : (ys.set h z).getD h 0 = z := by simp [List.getD_eq_getElem?_getD, hl]
      rw [e, if_neg (Nat.lt_irrefl _), if_pos (Nat.lt_succ_self _), Int.mul_sub]; omega
    · have e : (ys.set h z).getD k 0 = ys.getD k 0 := by simp [List.getD_eq_getElem?_getD, List.getElem?_set_ne hk]
      rw [e]
      by_cases h1 : h < k
      · rw [if_pos h1, if_pos (by omega)]; omega
      · rw [if_neg h1, if_neg (by omega)]; omega
theorem costR_comm (xs ys : List Int) : costR xs ys = costR ys xs := by
  unfold costR; rw [Bool.and_comm, dotI_comm]
theorem costR_pos {xs ys : List Int} (h : ¬ costR xs ys < 0) : feedB xs = true ∧ feedB ys = true := by
  unfold costR at h
  cases h1 : feedB xs <;> cases h2 : feedB ys <;> simp_all
theorem costR_neg {xs ys : List Int} (h : costR xs ys < 0) : costR xs ys = -1 := by
  unfold costR at h ⊢
  split
  · rename_i hh
    simp only [Bool.and_eq_true] at hh
    rw [if_pos (by simp [hh])] at h
    have := (dotI_bd (feedB_small hh.1).2 (feedB_small hh.2).2 6).1
    omega
  · rfl
theorem feedB_dear {ys : List Int} (h : feedB ys = true) {k : Nat} {y : Int} (hk : Hid (ys[k]? = some y)) (hy : y + 1 ≤ 30) : feedB (ys.set k (y + 1)) = true := by
  have h6 := feedB_small h
  have hy0 := small_at h6.2 hk
  refine feedB_mk (by rw [List.length_set]; exact h6.1) fun z hz => ?_
  rcases List.mem_or_eq_of_mem_set hz with hz | rfl
  · exact h6.2 z hz
  · omega
/-- With a price that is greater by 1. -/
theorem costR_dear {xs ys : List Int} (h1 : feedB xs = true) (h2 : feedB ys = true) {k : Nat} {x y : Int} (hx : Hid (xs[k]? = some x)) (hk : Hid (ys[k]? = some y)) (hy : y + 1 ≤ 30) : costR xs (ys.set k (y + 1)) = costR xs ys + x := by
  have h6 := feedB_small h2
  have hkl : k < ys.length := (List.getElem?_eq_some_iff.1 hk.out).1
  rw [costR_yes h1 (feedB_dear h2 hk hy), costR_yes h1 h2, dotI_set _ _ _ _ hkl, if_pos (by omega)]
  have e1 : xs.getD k 0 = x := by have := hx.out; simp [List.getD_eq_getElem?_getD, this]
  have e2 : ys.getD k 0 = y := by have := hk.out; simp [List.getD_eq_getElem?_getD, this]
  rw [e1, e2, show y + 1 - y = 1 by omega, Int.mul_one]

-- cuts
theorem most_le_cut {ns : List N4} {feed : List Int} {z : Int} (h : ¬ cutR ns feed z < 0) : needsB ns = true ∧ feedB feed = true ∧ 0 ≤ z ∧ z ≤ 63 ∧ mostR ns feed ≤ cutR ns feed z := by
  by_cases hc : needsB ns = true ∧ feedB feed = true ∧ 0 ≤ z ∧ z ≤ 63
  · obtain ⟨h1, h2, h3, h4⟩ := hc
    refine ⟨h1, h2, h3, h4, ?_⟩
    rw [mostR_yes h1 h2, cutR_yes h1 h2 h3 h4]
    exact leastI_le _ 63 _ (by omega)
  · exfalso
    apply h
    rw [cutR_no]; omega
    cases h1 : needsB ns
    · exact .inl rfl
    · cases h2 : feedB feed
      · exact .inr (.inl rfl)
      · simp only [h1, h2, true_and] at hc; omega
theorem cutR_neg {ns : List N4} {feed : List Int} {z : Int} (h : cutR ns feed z < 0) : cutR ns feed z = -1 := by
  by_cases hc : needsB ns = true ∧ feedB feed = true ∧ 0 ≤ z ∧ z ≤ 63
  · obtain ⟨h1, h2, h3, h4⟩ := hc
    rw [cutR_yes h1 h2 h3 h4] at h ⊢
    have := (cutI_bd h1 h2 z.toNat).1; omega
  · refine cutR_no ?_
    cases h1 : needsB ns
    · exact .inl rfl
    · cases h2 : feedB feed
      · exact .inr (.inl rfl)
      · simp only [h1, h2, true_and] at hc; omega
theorem selS_63 {xs : List Int} (h : small xs) (hl : xs.length = 6) : ∀ k : Nat, k ≤ 6 → selS true 63 xs k = sumW (xs.take k)
  | 0, _ => rfl
  | k + 1, hk => by
    have ih := selS_63 h hl k (by omega)
    obtain ⟨x, hx⟩ : ∃ x, xs[k]? = some x := ⟨_, List.getElem?_eq_getElem (by omega)⟩
    have hb := selS_bd h true 63 k
    have hx2 := h x (List.mem_of_getElem? hx)
    rw [sumW_next (x := x) hx, ← ih, selS_next (x := x) hx, if_pos (bits63P k (by omega)), IntWalk.wrap64_in _ (by omega)]
theorem cut_of_all {ns : List N4} {feed : List Int} (h1 : needsB ns = true) (h2 : feedB feed = true) : cutR ns feed 63 = sumW feed := by
  have h6 := feedB_small h2
  rw [cutR_yes h1 h2 (by omega) (by omega)]
  show cutOfI (wants ns) (rates ns) feed 63 = _
  unfold cutOfI
  rw [cutW_allP (wants_small h1) (rates_small h1), h6.1, selS_63 h6.2 h6.1 6 (Nat.le_refl _), List.take_of_length_le (by omega)]
  omega
theorem bits0 (j : Nat) : (0 : Nat).testBit j = false := by simp
theorem cutW_0 {ns : List N4} (h : needsB ns = true) : ∀ k : Nat, cutW 0 (wants ns) (rates ns) k ≤ wantAll ns k
  | 0 => Int.le_refl _
  | k + 1 => by
    have ih := cutW_0 h k
    simp only [cutW, wantAll]; omega
theorem cut_of_none {ns : List N4} {feed : List Int} (h1 : needsB ns = true) (h2 : feedB feed = true) : cutR ns feed 0 ≤ wantAll ns ns.length := by
  rw [cutR_yes h1 h2 (by omega) (by omega)]
  show cutOfI (wants ns) (rates ns) feed 0 ≤ _
  unfold cutOfI
  rw [selS_noneP _ (fun j _ => by simp), show (wants ns).length = ns.length by simp [wants]]
  have := cutW_0 h1 ns.length
  omega

-- the least feed
theorem wantAll_pos {ns : List N4} (h : needsB ns = true) : ∀ k : Nat, 0 < k → k ≤ ns.length → 0 < wantAll ns k
  | 0, h0, _ => by omega
  | k + 1, _, hk => by
    obtain ⟨x, hx⟩ : ∃ x, ns[k]? = some x := ⟨_, List.getElem?_eq_getElem (by omega)⟩
    have hok := nvB_spec ((needsB_ok h).2 x (List.mem_of_getElem? hx))
    have := (wantAll_bd h k).1
    rw [wantAll_next (x := x) hx]; omega
theorem rep_feed {u : Int} (h0 : 0 ≤ u) (h1 : u ≤ 30) : feedB (List.replicate 6 u) = true := by
  refine feedB_mk (by simp) fun x hx => ?_
  have := List.eq_of_mem_replicate hx; omega
theorem leastP_yes {ns : List N4} {u : Nat} (h : leastP ns u = true) : needsB ns = true := by
  cases h1 : needsB ns
  · rw [leastP_no h1] at h; cases h
  · rfl
theorem most_of_none {ns : List N4} (h : needsB ns = true) : mostI ns (List.replicate 6 0) = 0 := by
  have hf := rep_feed (u := 0) (by omega) (by omega)
  have h1 : mostI ns (List.replicate 6 0) ≤ cutI ns (List.replicate 6 0) 63 := leastI_le _ 63 63 (Nat.le_refl _)
  have h2 : cutI ns (List.replicate 6 0) 63 = 0 := by
    unfold cutI cutOfI
    rw [cutW_allP (wants_small h) (rates_small h), selS_zeroP (fun x hx => List.eq_of_mem_replicate hx)]; rfl
  have := (mostI_bd h hf).1
  omega
/-- The least feed is 0 just for no cars. -/
theorem least_zero {ns : List N4} {r : Int} (h : FirstIs (leastP ns) 31 r) (hr : ¬ r < 0) : (r = 0 ↔ ns.length = 0) ∧ needsB ns = true ∧ 0 ≤ r ∧ r ≤ 30 ∧ enoughR ns (List.replicate 6 r) = true ∧ (r ≠ 0 → enoughR ns (List.replicate 6 (r - 1)) = false) := by
  rcases h with ⟨k, hk, rfl, hp, hlt⟩ | ⟨rfl, _⟩
  · have hN := leastP_yes hp
    refine ⟨⟨fun h0 => ?_, fun h0 => ?_⟩, hN, by omega, by omega, hp, fun h0 => ?_⟩
    · obtain rfl : k = 0 := by omega
      by_cases hz : ns.length = 0
      · exact hz
      · exfalso
        have hp' : enoughR ns (List.replicate 6 0) = true := hp
        rw [enoughR_yes hN (rep_feed (by omega) (by omega)) rfl, most_of_none hN] at hp'
        have := wantAll_pos hN ns.length (by omega) (Nat.le_refl _)
        simp only [decide_eq_true_eq] at hp'
        omega
    · by_cases hz : k = 0
      · omega
      · exfalso
        have h1 := hlt 0 (by omega)
        have hp' : enoughR ns (List.replicate 6 0) = false := h1
        rw [enoughR_yes hN (rep_feed (by omega) (by omega)) rfl, most_of_none hN, h0] at hp'
        simp [wantAll] at hp'
    · have h1 := hlt (k - 1) (by omega)
      have e : ((k - 1 : Nat) : Int) = (k : Int) - 1 := by omega
      have h2 : enoughR ns (List.replicate 6 ((k - 1 : Nat) : Int)) = false := h1
      rw [e] at h2; exact h2
  · omega
end Go.Proofs.YtobkljhbmeglpaaDoor
