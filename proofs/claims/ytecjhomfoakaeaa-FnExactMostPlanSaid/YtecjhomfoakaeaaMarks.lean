/-
  The statements' own marks: numbers written through a slice, and whether they still stand.
-/
import Derived.Test.YtecjhomfoakaeaaInts
import Derived.Test.YtecjhomfoakaeaaNeeds
import Derived.Laws.OwnMore
namespace Go.Proofs.Ytecjhomfoakaeaa
open Go.ChangeShapes Go.WideShapes Go.ChangeAt Go.RowKit

theorem grown_trans {w1 w2 w3 : World} {row : Option Nat} (h1 : w1.grownBy w2 row) (h2 : w2.grownBy w3 row) : w1.grownBy w3 row :=
  ⟨h2.os.trans h1.os, h2.tape.trans h1.tape, h2.output.trans h1.output, Nat.le_trans h1.size h2.size,
    fun k hk hne => (h2.block k (Nat.lt_of_lt_of_le hk h1.size) hne).trans (h1.block k hk hne)⟩
theorem grown_refl (w : World) (row : Option Nat) : w.grownBy w row := ⟨rfl, rfl, rfl, Nat.le_refl _, fun _ _ _ => rfl⟩
/-- Everything that the value v owns lies in blocks lo .. hi. -/
def Lies (v : Value) (lo hi : Nat) : Prop := ∀ q, v.ownBlock = some q → lo ≤ q ∧ q < hi
theorem OwnAt.lies {w : World} {base sz n : Nat} {e : TypeId} {v : Value} {rs : List (List Value)} (h : OwnAt w base e sz v n rs) : Lies v base w.heap.size := fun q hq => h.own.lt q hq
theorem OwnAt.grown {w w' : World} {base sz n lo hi lo' hi' : Nat} {e : TypeId} {v u : Value} {rs : List (List Value)} (h : OwnAt w base e sz v n rs) (hg : w.grownBy w' u.ownBlock) (hv : Lies v lo hi) (hu : Lies u lo' hi') (hd : hi ≤ lo' ∨ hi' ≤ lo) : OwnAt w' base e sz v n rs := by
  refine ⟨h.own.kept hg ?_, h.len, h.one⟩
  cases hb : v.ownBlock with
  | none => exact .inl rfl
  | some q =>
    right
    intro he
    have h1 := hv q hb
    have h2 := hu q he.symm
    omega
theorem Whole.grownN {w w' : World} {g lo hi : Nat} {e : TypeId} {cs : List Value} {u : Value} (h : Whole w g e cs) (hg : w.grownBy w' u.ownBlock) (hu : Lies u lo hi) (hd : g < lo) : Whole w' g e cs :=
  (hg.block g h.lt (fun hh => by have := hu g hh.symm; omega)).trans h
theorem below_grown {a w w' : World} {u : Value} {lo hi : Nat} (h : Below a.heap.size a w) (hg : w.grownBy w' u.ownBlock) (hu : Lies u lo hi) (hd : a.heap.size ≤ lo) : Below a.heap.size a w' :=
  h.grown hg h.size (fun q hq => Nat.le_trans hd (hu q hq).1)
theorem own_there {w : World} {base sz n g cap : Nat} {e : TypeId} {xs : List Value} (h : w.ownsRow base e sz (.slice (some ⟨g, 0, none⟩) n cap) n xs) {j : Nat} (hj : j < n * sz) : ∃ u, w.cell? ⟨g, j, none⟩ = some u := by
  have h1 := h.1
  obtain ⟨u, hu⟩ : ∃ u, xs[j]? = some u := ⟨_, List.getElem?_eq_getElem (by omega)⟩
  have := h.cells (g := g) rfl _ _ hu
  unfold Addr.add at this
  split at this
  · rename_i hz; subst hz; exact ⟨u, this⟩
  · exact ⟨u, by simpa using this⟩

/-- The call answers the list rs, in memory of its own. -/
def OwnR (w : World) (rs : List Int) (e : Ending) (w' : World) : Prop := ∃ A n c, e = .returned (.slice A n c) ∧ n = rs.length ∧ OwnAt w' w.heap.size 3 1 (.slice A n c) n (ic rs) ∧ Below w.heap.size w w'

def markL (k : Int) (n : Nat) : List Int := (List.range n).map fun i => k + (i : Nat)
theorem markL_get {k : Int} {n i : Nat} (h : i < n) : (markL k n)[i]? = some (k + (i : Int)) := by
  unfold markL; rw [List.getElem?_map, List.getElem?_range h]; rfl

set_option maxHeartbeats 1000000 in
theorem markIntS_any (A : Option Addr) (n c : Nat) (k : Int) (w : World) (base : Nat) (rs : List (List Value)) (ho : OwnAt w base 3 1 (.slice A n c) n rs) (hn : n ≤ 1048576) (h0 : 0 ≤ k) (h1 : k ≤ 1073741824) :
    Calls Try.prog 13 #[.slice A n c, .int .i64 k] w fun e w' => e = .returned (.int .i64 (k + n)) ∧ w.grownBy w' (Value.slice A n c).ownBlock ∧ OwnAt w' base 3 1 (.slice A n c) n (ic (markL k n)) := by
  go_enter Try.func13, Try.ntmps13
  go_wp2
  go_loopw [1, 5] (fun t i wr => ∃ (j : Nat) (vs : List Value), j ≤ n ∧ i = .int .i64 j ∧ t = .int .i64 (k + j) ∧ wr.ownsRow base 3 1 (.slice A n c) n vs ∧ (∀ i, i < j → vs[i]? = some (.int .i64 (k + (i : Int)))) ∧ w.grownBy wr (Value.slice A n c).ownBlock) (fun _ i _ => n - (intOf i).toNat)
  case atStart => exact ⟨0, _, Nat.zero_le _, rfl, by simp, ho.own, fun i h => by omega, grown_refl _ _⟩
  case round =>
    obtain ⟨j, vs, hj, rfl, rfl, hown, hvs, hg⟩ := hrel
    have HVS := Lib.hid hvs
    clear hvs
    by_cases hlt : j < n
    · have hA : ∃ g, A = some ⟨g, 0, none⟩ := by
        rcases hown.2 with ⟨hv, h0⟩ | ⟨g, cap, cur, hv, _⟩
        · omega
        · injection hv with hA; exact ⟨g, hA⟩
      obtain ⟨g, rfl⟩ := hA
      obtain ⟨u, hu⟩ := own_there hown (j := j) (by omega)
      have hz := hown.frozenAt j
      obtain ⟨hst, hgs⟩ := hown.stored j (.int .i64 (k + j))
      have hlen := hown.1
      go_wp2
      go_roundw
      case rel =>
        refine ⟨j + 1, _, by omega, by go_num, by go_num, hst, fun i hi => ?_, grown_trans hg hgs⟩
        rw [List.getElem?_set]
        by_cases he : j = i
        · subst he; rw [if_pos rfl, if_pos (by omega)]
        · rw [if_neg he]; exact HVS.out i (by omega)
      case measure => simp [intOf]; omega
    · obtain rfl : j = n := by omega
      go_wp2
      go_ret
      have hlen := hown.1
      have hvs : vs = (ic (markL k j)).flatten := by
        rw [ic_flat]
        apply List.ext_getElem?
        intro i
        by_cases hi : i < j
        · rw [HVS.out i hi, List.getElem?_map, markL_get hi]; rfl
        · rw [List.getElem?_eq_none (by omega), List.getElem?_eq_none (by simp [markL]; omega)]
      subst hvs
      exact ⟨rfl, hg, hown, by simp [ic, markL], by intro r hr; simp [ic] at hr; obtain ⟨x, _, rfl⟩ := hr; rfl⟩

set_option maxHeartbeats 1000000 in
theorem heldIntS_any (A : Option Addr) (n c : Nat) (k : Int) (w : World) (hx : IntsAt w A n (markL k n)) (hn : n ≤ 1048576) (h0 : 0 ≤ k) (h1 : k ≤ 1073741824) :
    Calls Try.prog 24 #[.slice A n c, .int .i64 k] w (RS w (.int .i64 (k + n))) := by
  go_enter Try.func24, Try.ntmps24
  go_wp2
  go_loop [1, 5] (fun t i => ∃ j : Nat, j ≤ n ∧ i = .int .i64 j ∧ t = .int .i64 (k + j)) (fun _ i => n - (intOf i).toNat)
  case atStart => exact ⟨0, Nat.zero_le _, rfl, by simp⟩
  case round =>
    obtain ⟨j, hj, rfl, rfl⟩ := hrel
    by_cases hlt : j < n
    · obtain ⟨x, b, off, HX, rfl, hb, hc⟩ := hx.get hlt
      have hxk : x = k + j := by have h := HX.out; rw [markL_get hlt] at h; injection h with h; exact h.symm
      subst hxk
      go_wp2
      go_round
      case rel => exact ⟨j + 1, by omega, by go_num, by go_num⟩
      case measure => simp [intOf]; omega
    · obtain rfl : j = n := by omega
      go_wp2
      go_ret
      exact ⟨rfl, rfl⟩
set_option maxHeartbeats 2000000 in
theorem markNeedS_any (A : Option Addr) (n c : Nat) (k : Int) (w : World) (base : Nat) (rs : List (List Value)) (ho : OwnAt w base 40 4 (.slice A n c) n rs) (hn : n ≤ 1048576) (h0 : 0 ≤ k) (h1 : k ≤ 1073741824) :
    Calls Try.prog 12 #[.slice A n c, .int .i64 k] w fun e w' => e = .returned (.int .i64 (k + 4 * n)) ∧ w.grownBy w' (Value.slice A n c).ownBlock := by
  go_enter Try.func12, Try.ntmps12
  go_wp2
  go_loopw [1, 5] (fun t i wr => ∃ (j : Nat) (vs : List Value), j ≤ n ∧ i = .int .i64 j ∧ t = .int .i64 (k + 4 * j) ∧ wr.ownsRow base 40 4 (.slice A n c) n vs ∧ w.grownBy wr (Value.slice A n c).ownBlock) (fun _ i _ => n - (intOf i).toNat)
  case atStart => exact ⟨0, _, Nat.zero_le _, rfl, by simp, ho.own, grown_refl _ _⟩
  case round =>
    obtain ⟨j, vs, hj, rfl, rfl, hown, hg⟩ := hrel
    by_cases hlt : j < n
    · have hA : ∃ g, A = some ⟨g, 0, none⟩ := by
        rcases hown.2 with ⟨hv, h0⟩ | ⟨g, cap, cur, hv, _⟩
        · omega
        · injection hv with hA; exact ⟨g, hA⟩
      obtain ⟨g, rfl⟩ := hA
      obtain ⟨hs1, hg1⟩ := hown.stored (j * 4) (.int .i64 (k + 4 * j))
      obtain ⟨hs2, hg2⟩ := hs1.stored (j * 4 + 1) (.int .i64 (k + 4 * j + 1))
      obtain ⟨hs3, hg3⟩ := hs2.stored (j * 4 + 2) (.int .i64 (k + 4 * j + 1 + 1))
      obtain ⟨hs4, hg4⟩ := hs3.stored (j * 4 + 3) (.int .i64 (k + 4 * j + 1 + 1 + 1))
      obtain ⟨u1, hu1⟩ := own_there hown (j := j * 4) (by omega)
      obtain ⟨u2, hu2⟩ := own_there hs1 (j := j * 4 + 1) (by omega)
      obtain ⟨u3, hu3⟩ := own_there hs2 (j := j * 4 + 2) (by omega)
      obtain ⟨u4, hu4⟩ := own_there hs3 (j := j * 4 + 3) (by omega)
      have hz1 := hown.frozenAt (j * 4)
      have hz2 := hs1.frozenAt (j * 4 + 1)
      have hz3 := hs2.frozenAt (j * 4 + 2)
      have hz4 := hs3.frozenAt (j * 4 + 3)
      have hG := grown_trans (grown_trans (grown_trans (grown_trans hg hg1) hg2) hg3) hg4
      clear hown hs1 hs2 hs3 hg1 hg2 hg3 hg4 hg
      go_wp2
      go_roundw
      case rel => exact ⟨j + 1, _, by omega, by go_num, by go_num, hs4, hG⟩
      case measure => simp [intOf]; omega
    · obtain rfl : j = n := by omega
      go_wp2
      go_ret
      exact ⟨rfl, hg⟩
end Go.Proofs.Ytecjhomfoakaeaa
