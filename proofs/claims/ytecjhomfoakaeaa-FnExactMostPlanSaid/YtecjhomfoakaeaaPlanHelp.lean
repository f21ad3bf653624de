/-
  The statements' own helpers on plans: toIntSS (a copy), eqIntSS.
-/
import Derived.Test.YtecjhomfoakaeaaPlanOwn
namespace Go.Proofs.Ytecjhomfoakaeaa
open Go.ChangeShapes Go.WideShapes Go.ChangeAt Go.RowKit

/-- A plan in memory of the call's own. -/
structure PlanOwn (w : World) (base : Nat) (A : Option Addr) (n : Nat) (rows : List (List Int)) : Prop where
  lie : ∃ g top gs, A = some ⟨g, 0, none⟩ ∧ base ≤ g ∧ Fill w g 23 1 n n (outc gs rows) ∧ RowsOwn w (g + 1) top gs rows ∧ top ≤ w.heap.size
  short : ∀ r ∈ rows, r.length ≤ 1048576
  fits : n ≤ 1048576
theorem PlanOwn.below {w w' : World} {base n : Nat} {A : Option Addr} {rows : List (List Int)} (h : PlanOwn w base A n rows) (hb : Below w.heap.size w w') : PlanOwn w' base A n rows := by
  obtain ⟨g, top, gs, hA, hg, hf, hr, ht⟩ := h.lie
  exact ⟨⟨g, top, gs, hA, hg, hf.below hb, hr.belowN hb ht, Nat.le_trans ht hb.size⟩, h.short, h.fits⟩
theorem PlanOwn.rowsAt {w : World} {base n : Nat} {A : Option Addr} {rows : List (List Int)} (h : PlanOwn w base A n rows) : RowsAt w A n rows := by
  obtain ⟨g, top, gs, rfl, hg, hf, hr, ht⟩ := h.lie
  exact hr.rowsAt (hf.done rfl (Nat.le_refl _) (by have := h.fits; unfold maxLen; omega)).slAt fun r hr => by have := h.short r hr; omega

set_option maxHeartbeats 1000000 in
theorem eqIntSS_same (A C : Option Addr) (n c d : Nat) (rows : List (List Int)) (w : World) (hn : n ≤ 9223372036854775807) (hx : RowsAt w A n rows) (hy : RowsAt w C n rows) :
    Calls Try.prog 9 #[.slice A n c, .slice C n d] w (RV w (.bool true)) := by
  go_enter Try.func9, Try.ntmps9
  go_wp2
  go_loopw [5] (fun i wr => ∃ k : Nat, k ≤ n ∧ i = .int .i64 k ∧ Below w.heap.size w wr) (fun i _ => n - (intOf i).toNat)
  case atStart => exact ⟨0, Nat.zero_le _, rfl, Below.refl _ _⟩
  case round =>
    obtain ⟨k, hk, rfl, hbw⟩ := hrel
    by_cases hlt : k < n
    · obtain ⟨r, b, off, A', c', l, HX, Hl, rfl, hb, hc, hir, hm⟩ := (hx.below hbw).get hlt
      obtain ⟨r', b', off', B', d', l', HY, Hl', rfl, hb', hc', hir', hm'⟩ := (hy.below hbw).get hlt
      obtain rfl : r = r' := by have h1 := HX.out; have h2 := HY.out; rw [h1] at h2; injection h2
      obtain rfl : l = l' := by rw [← Hl.out, ← Hl'.out]
      have h0i : (0 : Int) ≤ (k : Int) := by omega
      have h1i : (k : Int) < (n : Int) := by omega
      go_wp2
      go_region_held3 (fun w' => w'.cell? ⟨b, off + k, none⟩ = some (.slice A' l c') ∧ w'.cell? ⟨b', off' + k, none⟩ = some (.slice B' l d'))
        (first | exact ⟨hc, hc'⟩ | exact ⟨(hb1.cell hb).trans hc, (hb1.cell hb').trans hc'⟩)
        (first | (go_at_call 11; refine (eqIntS_any A' B' l c' l d' r r _ hm (hir.below ((Below.refl _ _).drew)) (hir'.below ((Below.refl _ _).drew))).mono ?_; rintro e w1 ⟨rfl, hb1⟩))
      have hB1 : Below wr.heap.size wr w1 := (Below.refl _ _).drew.trans hb1
      go_wp2
      go_roundw
      case rel => exact ⟨k + 1, by omega, by go_num, hbw.trans (hB1.mono hbw.size)⟩
      case measure => simp [intOf]; omega
    · go_wp2
      go_ret
      exact ⟨rfl, hbw⟩
end Go.Proofs.Ytecjhomfoakaeaa
