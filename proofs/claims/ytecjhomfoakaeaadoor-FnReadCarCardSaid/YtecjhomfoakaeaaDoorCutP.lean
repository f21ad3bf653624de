/-
  strings.Cut and strings.Split at a sep of one byte, in the words of cutL; what readNumber says of the parts of a car's text.
-/
import Derived.Test.YtecjhomfoakaeaaDoorSRead
import Derived.Test.YtecjhomfoakaeaaDoorRdN
import Derived.Lib.SplitLaws
namespace Go.Proofs.YtecjhomfoakaeaaDoor
open Go.ChangeShapes Go.WideShapes Go.ChangeAt Go.RowKit

theorem ib_split : ∀ (s : List UInt8) (c : UInt8), (Lib.index s [c] = -1 ∧ ∀ b ∈ s, b ≠ c) ∨ ∃ i : Nat, Lib.index s [c] = i ∧ s = s.take i ++ c :: s.drop (i + 1) ∧ ∀ b ∈ s.take i, b ≠ c
  | [], c => .inl ⟨rfl, by simp⟩
  | b :: s, c => by
    rw [Lib.index_one]
    by_cases hb : b = c
    · subst hb
      refine .inr ⟨0, ?_, by simp, by simp⟩
      simp [Lib.indexByte]
    · have hb' : (b == c) = false := beq_eq_false_iff_ne.2 hb
      have ih := ib_split s c
      rw [Lib.index_one] at ih
      rcases ih with ⟨h1, h2⟩ | ⟨i, h1, h2, h3⟩
      · refine .inl ⟨?_, ?_⟩
        · unfold Lib.indexByte; rw [hb', h1]; rfl
        · intro x hx
          rcases List.mem_cons.1 hx with rfl | hx
          · exact hb
          · exact h2 x hx
      · refine .inr ⟨i + 1, ?_, ?_, ?_⟩
        · unfold Lib.indexByte
          have hi : ((i : Int) == -1) = false := by rw [beq_eq_false_iff_ne]; omega
          rw [hb', h1]; simp [hi]
        · simp only [List.take_succ_cons, List.drop_succ_cons, List.cons_append]
          rw [← h2]
        · intro x hx
          rw [List.take_succ_cons] at hx
          rcases List.mem_cons.1 hx with rfl | hx
          · exact hb
          · exact h3 x hx
/-- Cut by one byte, in the words of cutL. -/
theorem cut_one (s : List UInt8) (c : UInt8) : (Lib.cut s [c] = (s, [], false) ∧ cutL c s = [s]) ∨ ∃ F R, Lib.cut s [c] = (F, R, true) ∧ cutL c s = F :: cutL c R ∧ F.length ≤ s.length ∧ R.length ≤ s.length := by
  rcases ib_split s c with ⟨h1, h2⟩ | ⟨i, h1, h2, h3⟩
  · refine .inl ⟨?_, cutL_free h2⟩
    unfold Lib.cut; rw [h1]; rfl
  · refine .inr ⟨s.take i, s.drop (i + 1), ?_, ?_, by simp; omega, by simp⟩
    · unfold Lib.cut; rw [h1, if_pos (by omega)]; simp
    · conv => lhs; rw [h2]
      exact cutL_at h3
theorem splitK_cut (c : UInt8) : ∀ (k : Nat) (s : List UInt8), Lib.count s [c] = k → Lib.splitK [c] 0 k s = cutL c s := by
  intro k
  induction k with
  | zero =>
    intro s hk
    rcases ib_split s c with ⟨h1, h2⟩ | ⟨i, h1, h2, h3⟩
    · rw [cutL_free h2]; rfl
    · rw [Lib.count_hit (by simp) h1] at hk; omega
  | succ k ih =>
    intro s hk
    rcases ib_split s c with ⟨h1, h2⟩ | ⟨i, h1, h2, h3⟩
    · rw [cutL_free h2]
      unfold Lib.splitK
      rw [h1]; rfl
    · rw [Lib.count_hit (by simp) h1] at hk
      have hi : ((i : Int) == -1) = false := by rw [beq_eq_false_iff_ne]; omega
      have e : (i : Int).toNat = i := by omega
      unfold Lib.splitK
      rw [h1, hi, e]
      have := ih (s.drop (i + 1)) (by simp at hk; omega)
      conv => rhs; rw [h2]
      rw [cutL_at h3]
      simp [this]
/-- Split by one byte, in the words of cutL. -/
theorem split_one (s : List UInt8) (c : UInt8) : Lib.countB ⟨s.toArray⟩ ⟨#[c]⟩ + 1 = (cutL c s).length ∧ (Lib.splitB ⟨#[c]⟩ 0 (Lib.countB ⟨s.toArray⟩ ⟨#[c]⟩) ⟨s.toArray⟩).map Value.string = (cutL c s).map tx := by
  have e : (Lib.splitB ⟨#[c]⟩ 0 (Lib.countB ⟨s.toArray⟩ ⟨#[c]⟩) ⟨s.toArray⟩).map (·.data.toList) = cutL c s := by
    rw [Lib.splitB_data]
    exact splitK_cut c _ s rfl
  refine ⟨?_, ?_⟩
  · rw [← e, List.length_map, Lib.splitB_all ⟨#[c]⟩ (Nat.le_refl 1) 0 _ _ rfl]
  · rw [← e, List.map_map]
    apply List.map_congr_left
    intro x _
    simp [tx]
theorem cutL_one {sep : UInt8} : ∀ {s p : List UInt8}, cutL sep s = [p] → s = p
  | [], p, h => by simp [cutL] at h; exact h.symm
  | b :: s, p, h => by
    unfold cutL at h
    split at h
    · injection h with h1 h2; exact absurd h2 (cutL_ne sep s)
    · cases hc : cutL sep s with
      | nil => exact absurd hc (cutL_ne sep s)
      | cons q qs =>
        rw [hc] at h
        injection h with h1 h2
        subst h2
        rw [cutL_one hc, ← h1]
theorem num_ok : ∀ n : Nat, n < 100 → okN (numT n) = true ∧ numV (numT n) = (n : Int) := by decide +kernel
/-- The parts of a valid car's text, as Cut and Split and readNumber see them. -/
theorem carT_parts {s F R : List UInt8} (hs : cutL 58 s = F :: cutL 58 R) {f t r u : Int} (hv : carB f t r u = true) (h : carT f t r u = s) :
    ∃ T P U, cutL 120 R = [T, P, U] ∧ okN F = true ∧ okN T = true ∧ okN P = true ∧ okN U = true ∧ numV F = f ∧ numV T = t ∧ numV P = r ∧ numV U = u := by
  obtain ⟨R', h1, h2, -⟩ := carT_cut hv
  rw [h, hs] at h1
  injection h1 with e1 e2
  have e3 := cutL_one e2
  subst e1 e3
  have hb := carB_spec hv
  obtain ⟨a1, a2⟩ := num_ok f.toNat (by omega)
  obtain ⟨b1, b2⟩ := num_ok t.toNat (by omega)
  obtain ⟨c1, c2⟩ := num_ok r.toNat (by omega)
  obtain ⟨d1, d2⟩ := num_ok u.toNat (by omega)
  exact ⟨_, _, _, h2, a1, b1, c1, d1, by rw [a2]; omega, by rw [b2]; omega, by rw [c2]; omega, by rw [d2]; omega⟩
theorem carT_miss {s : List UInt8} (hs : cutL 58 s = [s]) : ∀ f t r u : Int, carB f t r u = true → carT f t r u ≠ s :=
  carT_no fun F R T Q U h1 _ _ => by rw [hs] at h1; injection h1 with _ h2; cases h2
end Go.Proofs.YtecjhomfoakaeaaDoor
