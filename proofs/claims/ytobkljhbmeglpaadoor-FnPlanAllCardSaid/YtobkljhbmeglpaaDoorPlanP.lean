/-
  Plain laws of plans: what the loads of all hours are together; a plan without its first row. No program is in sight here.
-/
import Derived.Test.YtobkljhbmeglpaaDoorPlans
namespace Go.Proofs.YtobkljhbmeglpaaDoor
open Go.ChangeShapes Go.WideShapes Go.ChangeAt Go.RowKit

/-- Numbers of a drawn plan. -/
def feedX (xs : List Int) : Prop := ∀ x ∈ xs, -1 ≤ x ∧ x ≤ 100
/-- A plan as it is drawn: at most six rows, six numbers a row, each from -1 to 100. -/
def planD (rows : List (List Int)) : Prop := rows.length ≤ 6 ∧ ∀ r ∈ rows, r.length = 6 ∧ feedX r
theorem six_of {r : List Int} (h : r.length = 6) : ∃ a b c d e f, r = [a, b, c, d, e, f] := by
  match r, h with
  | [a, b, c, d, e, f], _ => exact ⟨a, b, c, d, e, f, rfl⟩
theorem sumW_six {a b c d e f : Int} (h : feedX [a, b, c, d, e, f]) : sumW [a, b, c, d, e, f] = a + b + c + d + e + f := by
  have h1 := h a (by simp); have h2 := h b (by simp); have h3 := h c (by simp); have h4 := h d (by simp); have h5 := h e (by simp); have h6 := h f (by simp)
  simp only [sumW, List.foldl_cons, List.foldl_nil]
  rw [IntWalk.wrap64_in (0 + a) (by omega), IntWalk.wrap64_in (0 + a + b) (by omega), IntWalk.wrap64_in (0 + a + b + c) (by omega), IntWalk.wrap64_in (0 + a + b + c + d) (by omega), IntWalk.wrap64_in (0 + a + b + c + d + e) (by omega), IntWalk.wrap64_in (0 + a + b + c + d + e + f) (by omega)]
  omega
theorem sumW_row {r : List Int} (h : r.length = 6) (hr : feedX r) : sumW r = r.getD 0 0 + r.getD 1 0 + r.getD 2 0 + r.getD 3 0 + r.getD 4 0 + r.getD 5 0 ∧ -6 ≤ sumW r ∧ sumW r ≤ 600 := by
  obtain ⟨a, b, c, d, e, f, rfl⟩ := six_of h
  rw [sumW_six hr]
  have h1 := hr a (by simp); have h2 := hr b (by simp); have h3 := hr c (by simp); have h4 := hr d (by simp); have h5 := hr e (by simp); have h6 := hr f (by simp)
  refine ⟨rfl, by omega, by omega⟩

/-- What a plan gives in all, without bounds. -/
def allP : List (List Int) → Int
  | [] => 0
  | r :: rows => sumW r + allP rows
def colP (h : Nat) : List (List Int) → Int
  | [] => 0
  | r :: rows => r.getD h 0 + colP h rows
theorem allP_bd : ∀ {rows : List (List Int)}, (∀ r ∈ rows, r.length = 6 ∧ feedX r) → -6 * (rows.length : Int) ≤ allP rows ∧ allP rows ≤ 600 * (rows.length : Int)
  | [], _ => by simp [allP]
  | r :: rows, h => by
    have ih := allP_bd (rows := rows) fun x hx => h x (by simp [hx])
    have h1 := h r (by simp)
    have h2 := sumW_row h1.1 h1.2
    simp only [allP, List.length_cons, Int.natCast_add]; omega
theorem allW_acc (rows : List (List Int)) : ∀ (s : Int), (∀ r ∈ rows, r.length = 6 ∧ feedX r) → -1000000 + 600 * (rows.length : Int) ≤ s → s ≤ 1000000 - 600 * (rows.length : Int) →
    rows.foldl (fun s r => wrap64 (s + sumW r)) s = s + allP rows := by
  induction rows with
  | nil => intro s _ _ _; simp [allP]
  | cons r rows ih =>
    intro s h h1 h2
    have h3 := h r (by simp)
    have h4 := sumW_row h3.1 h3.2
    simp only [List.length_cons, Int.natCast_add] at h1 h2
    have e : wrap64 (s + sumW r) = s + sumW r := IntWalk.wrap64_in _ (by omega)
    have i1 := ih (s + sumW r) (fun x hx => h x (by simp [hx])) (by omega) (by omega)
    simp only [List.foldl_cons, allP]
    rw [e, i1]; omega
theorem allW_plain {rows : List (List Int)} (h : planD rows) : allW rows = allP rows ∧ -36 ≤ allP rows ∧ allP rows ≤ 3600 := by
  have hb := allP_bd h.2
  have hl := h.1
  refine ⟨?_, by omega, by omega⟩
  unfold allW
  rw [allW_acc rows 0 h.2 (by omega) (by omega)]; omega
theorem planD_tail {r : List Int} {rows : List (List Int)} (h : planD (r :: rows)) : planD rows := ⟨by have := h.1; simp at this; omega, fun x hx => h.2 x (by simp [hx])⟩
/-- Without the first row. -/
theorem allW_tail {r : List Int} {rows : List (List Int)} (h : planD (r :: rows)) : allW rows = allW (r :: rows) - sumW r := by
  rw [(allW_plain h).1, (allW_plain (planD_tail h)).1]; simp only [allP]; omega

theorem row_at {r : List Int} (hr : feedX r) (k : Nat) : -1 ≤ r.getD k 0 ∧ r.getD k 0 ≤ 100 := by
  rw [List.getD_eq_getElem?_getD]
  cases hk : r[k]? with
  | none => simp
  | some x => simpa using hr x (List.mem_of_getElem? hk)
theorem colP_bd (k : Nat) : ∀ {rows : List (List Int)}, (∀ r ∈ rows, r.length = 6 ∧ feedX r) → -(rows.length : Int) ≤ colP k rows ∧ colP k rows ≤ 100 * (rows.length : Int)
  | [], _ => by simp [colP]
  | r :: rows, h => by
    have ih := colP_bd k (rows := rows) fun x hx => h x (by simp [hx])
    have h1 := row_at (h r (by simp)).2 k
    simp only [colP, List.length_cons, Int.natCast_add]; omega
theorem loadW_acc {k : Nat} (hk : k < 6) (rows : List (List Int)) : ∀ (s : Int), (∀ r ∈ rows, r.length = 6 ∧ feedX r) → -1000000 + 100 * (rows.length : Int) ≤ s → s ≤ 1000000 - 100 * (rows.length : Int) →
    rows.foldl (fun s r => if 0 ≤ (k : Int) ∧ (k : Int) < r.length then wrap64 (s + r.getD (k : Int).toNat 0) else s) s = s + colP k rows := by
  induction rows with
  | nil => intro s _ _ _; simp [colP]
  | cons r rows ih =>
    intro s h h1 h2
    have h3 := h r (by simp)
    have h4 := row_at h3.2 k
    simp only [List.length_cons, Int.natCast_add] at h1 h2
    have e : wrap64 (s + r.getD k 0) = s + r.getD k 0 := IntWalk.wrap64_in _ (by omega)
    have i1 := ih (s + r.getD k 0) (fun x hx => h x (by simp [hx])) (by omega) (by omega)
    rw [Int.toNat_natCast] at i1
    have hc : 0 ≤ (k : Int) ∧ (k : Int) < (r.length : Int) := by rw [h3.1]; omega
    simp only [List.foldl_cons, colP]
    rw [if_pos hc, Int.toNat_natCast, e, i1]; omega
theorem loadW_plain {rows : List (List Int)} (h : planD rows) {k : Nat} (hk : k < 6) : loadW (k : Int) rows = colP k rows ∧ -6 ≤ colP k rows ∧ colP k rows ≤ 600 := by
  have hb := colP_bd k h.2
  have hl := h.1
  refine ⟨?_, by omega, by omega⟩
  unfold loadW
  rw [loadW_acc hk rows 0 h.2 (by omega) (by omega)]; omega
def colsP (rows : List (List Int)) : Nat → Int
  | 0 => 0
  | k + 1 => colsP rows k + colP k rows
theorem colsP_all : ∀ {rows : List (List Int)}, (∀ r ∈ rows, r.length = 6 ∧ feedX r) → colsP rows 6 = allP rows
  | [], _ => by simp [colsP, colP, allP]
  | r :: rows, h => by
    have ih := colsP_all (rows := rows) fun x hx => h x (by simp [hx])
    have h1 := h r (by simp)
    have h2 := (sumW_row h1.1 h1.2).1
    simp only [colsP, colP, allP] at ih ⊢
    omega
theorem colsP_bd {rows : List (List Int)} (h : planD rows) : ∀ k : Nat, k ≤ 6 → -6 * (k : Int) ≤ colsP rows k ∧ colsP rows k ≤ 600 * (k : Int)
  | 0, _ => by simp [colsP]
  | k + 1, hk => by
    have ih := colsP_bd h k (by omega)
    have h1 := (loadW_plain h (k := k) (by omega)).2
    simp only [colsP, Int.natCast_add]; omega
/-- The loads of all hours together are all that is given. -/
theorem cols_all {rows : List (List Int)} (h : planD rows) : colsP rows 6 = allW rows := by rw [colsP_all h.2, (allW_plain h).1]
end Go.Proofs.YtobkljhbmeglpaaDoor
