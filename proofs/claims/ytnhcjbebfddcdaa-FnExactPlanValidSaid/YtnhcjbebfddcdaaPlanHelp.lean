/-
  The statements' own helpers on plans: toIntSS (a copy), eqIntSS.
-/
import Derived.Test.YtnhcjbebfddcdaaPlanOwn
namespace Go.Proofs.Ytnhcjbebfddcdaa
open Go.ChangeShapes Go.WideShapes Go.ChangeAt Go.RowKit

/-- A plan in memory of the call's own. -/
structure PlanOwn (w : World) (base : Nat) (A : Option Addr) (n : Nat) (rows : List (List Int)) : Prop where
  lie : ∃ g top gs, A = some ⟨g, 0, none⟩ ∧ base ≤ g ∧ Fill w g 22 1 n n (outc gs rows) ∧ RowsOwn w (g + 1) top gs rows ∧ top ≤ w.heap.size
  short : ∀ r ∈ rows, r.length ≤ 1048576
  fits : n ≤ 1048576
theorem PlanOwn.below {w w' : World} {base n : Nat} {A : Option Addr} {rows : List (List Int)} (h : PlanOwn w base A n rows) (hb : Below w.heap.size w w') : PlanOwn w' base A n rows := by
  obtain ⟨g, top, gs, hA, hg, hf, hr, ht⟩ := h.lie
  exact ⟨⟨g, top, gs, hA, hg, hf.below hb, hr.belowN hb ht, Nat.le_trans ht hb.size⟩, h.short, h.fits⟩
theorem PlanOwn.rowsAt {w : World} {base n : Nat} {A : Option Addr} {rows : List (List Int)} (h : PlanOwn w base A n rows) : RowsAt w A n rows := by
  obtain ⟨g, top, gs, rfl, hg, hf, hr, ht⟩ := h.lie
  exact hr.rowsAt (hf.done rfl (Nat.le_refl _) (by have := h.fits; unfold maxLen; omega)).slAt fun r hr => by have := h.short r hr; omega

set_option maxHeartbeats 2000000 in
theorem toIntSS_any (A : Option Addr) (n c : Nat) (rows : List (List Int)) (w : World) (hn : n ≤ 1048576) (hx : RowsAt w A n rows) (hs : ∀ r ∈ rows, r.length ≤ 1048576) :
    Calls Try.prog 21 #[.slice A n c] w fun e w' => ∃ A' c', e = .returned (.slice A' n c') ∧ PlanOwn w' w.heap.size A' n rows ∧ Below w.heap.size w w' := by
  have HL := Lib.hid hx.len
  have HS := Lib.hid hs
  clear hs
  obtain ⟨i0, hi, hz0, hz1, hz2⟩ := info_parts intsl_info
  go_enter Try.func21, Try.ntmps21
  go_wp2_with (at_make; refine wpList_make_full _ rfl _ _ 26 rfl w.heap.size 22 i0 _ 1 Try.underlying26 hi hz0 hz1 .i64 .i64 _ _ n rfl rfl rfl rfl (by rw [hz2]; omega) (by unfold maxLen; omega) (Nat.le_refl _) ?_; intro w1 hown hg)
  have hB : Below w.heap.size w w1 := Below.grown (Below.refl _ w) hg (Nat.le_refl _) (by simp)
  go_loopw [4] (fun i wr => ∃ (k : Nat) (gs : List Nat), k ≤ n ∧ i = .int .i64 k ∧ Fill wr w.heap.size 22 1 n k (outc gs (rows.take k)) ∧ RowsOwn wr (w.heap.size + 1) wr.heap.size gs (rows.take k) ∧ Below w.heap.size w wr) (fun i _ => n - (intOf i).toNat)
  case atStart => exact ⟨0, [], Nat.zero_le _, rfl, by simpa [outc] using Fill.start hown, by simpa using RowsOwn.nil _ _ _, hB⟩
  case round =>
    obtain ⟨k, gs, hk, rfl, hf, hro, hbw⟩ := hrel
    clear hown hg hB
    by_cases hlt : k < n
    · obtain ⟨r, b, off, A', c', l, HX, Hl, rfl, hb, hc, hir, hm⟩ := (hx.below hbw).get hlt
      have hl1 : l ≤ 1048576 := by rw [← Hl.out]; exact HS.out r (List.mem_of_getElem? HX.out)
      have hwl := hf.lt
      go_wp2_with fail
      refine (toIntS_whole A' l c' r _ (by omega) hir).mono ?_; rintro e w2 ⟨rfl, hW2, hb2⟩
      obtain ⟨u, hu⟩ := (hf.below hb2).cell (j := k) (by omega)
      have hz := (hf.below hb2).free k
      have hs2 := hW2.lt
      go_wp2
      go_roundw
      case rel =>
        refine ⟨k + 1, gs ++ [wr.heap.size], by omega, by go_num, ?_, ?_, (hbw.trans (hb2.mono hbw.size)).setCell (Nat.le_refl _) _⟩
        · rw [take_next HX, outc_snoc hro.len, Hl.out]
          exact (hf.below hb2).next1 hlt _
        · rw [take_next HX]
          have h1 := (hro.belowN hb2 (Nat.le_refl _)).snoc (r := r) (g := wr.heap.size) (by omega) (Nat.le_refl _) hW2
          exact (h1.low (p := ⟨w.heap.size, k, none⟩) (by simp) _).top (by simp [World.setCell]; omega)
      case measure => simp [intOf]; omega
    · obtain rfl : k = n := by omega
      go_wp2
      go_ret
      rw [take_all HL.out (Nat.le_refl _)] at hf hro
      exact ⟨_, _, rfl, ⟨⟨_, _, gs, rfl, Nat.le_refl _, hf, hro, Nat.le_refl _⟩, HS.out, hn⟩, hbw⟩

set_option maxHeartbeats 1000000 in
theorem eqIntSS_same (A C : Option Addr) (n c d : Nat) (rows : List (List Int)) (w : World) (hn : n ≤ 9223372036854775807) (hx : RowsAt w A n rows) (hy : RowsAt w C n rows) :
    Calls Try.prog 23 #[.slice A n c, .slice C n d] w (RV w (.bool true)) := by
  go_enter Try.func23, Try.ntmps23
  go_wp2
  go_loopw [5] (fun i wr => ∃ k : Nat, k ≤ n ∧ i = .int .i64 k ∧ Below w.heap.size w wr) (fun i _ => n - (intOf i).toNat)
  case atStart => exact ⟨0, Nat.zero_le _, rfl, Below.refl _ _⟩
  case round =>
    obtain ⟨k, hk, rfl, hbw⟩ := hrel
    by_cases hlt : k < n
    · obtain ⟨r, b, off, A', c', l, HX, Hl, rfl, hb, hc, hir, hm⟩ := (hx.below hbw).get hlt
      obtain ⟨r', b', off', B', d', l', HY, Hl', rfl, hb', hc', hir', hm'⟩ := (hy.below hbw).get hlt
      obtain rfl : r = r' := by have h1 := HX.out; have h2 := HY.out; rw [h1] at h2; injection h2
      obtain rfl : l = l' := by rw [← Hl.out, ← Hl'.out]
      have h0i : (0 : Int) ≤ (k : Int) := by omega
      have h1i : (k : Int) < (n : Int) := by omega
      go_wp2
      go_region_held3 (fun w' => w'.cell? ⟨b, off + k, none⟩ = some (.slice A' l c') ∧ w'.cell? ⟨b', off' + k, none⟩ = some (.slice B' l d'))
        (first | exact ⟨hc, hc'⟩ | exact ⟨(hb1.cell hb).trans hc, (hb1.cell hb').trans hc'⟩)
        (first | (go_at_call 18; refine (eqIntS_any A' B' l c' l d' r r _ hm (hir.below ((Below.refl _ _).drew)) (hir'.below ((Below.refl _ _).drew))).mono ?_; rintro e w1 ⟨rfl, hb1⟩))
      have hB1 : Below wr.heap.size wr w1 := (Below.refl _ _).drew.trans hb1
      go_wp2
      go_roundw
      case rel => exact ⟨k + 1, by omega, by go_num, hbw.trans (hB1.mono hbw.size)⟩
      case measure => simp [intOf]; omega
    · go_wp2
      go_ret
      exact ⟨rfl, hbw⟩
end Go.Proofs.Ytnhcjbebfddcdaa
