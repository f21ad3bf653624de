/-
  Ways to the gate in plain words: the search from the gate, and the shortest way from a cell.
-/
import Derived.Test.YtdebjcempkgeaaaGreatDoorHallC
namespace Go.Proofs.YtdebjcempkgeaaaGreatDoor
open Go.ChangeShapes Go.WideShapes Go.ChangeAt Go.RowKit

/-- The cells beside a cell. -/
def besN (W n a : Nat) : List Nat := (List.range n).filter fun j => apN W a j == 1
theorem besP_map (W n a : Nat) : besP W a n = (besN W n a).map fun (j : Nat) => (j : Int) := rfl
/-- How far a cell is from the gate. -/
def dN (W c : Nat) : Nat := c % W + c / W
def dstL (W n : Nat) : List Int := (List.range n).map fun c => ((dN W c : Nat) : Int)
/-- One neighbour x of the cell c in the search. -/
def bstep (c : Nat) (s : List Int × List Nat) (x : Nat) : List Int × List Nat := if s.1.getD x 0 < 0 then (s.1.set x (s.1.getD c 0 + 1), s.2 ++ [x]) else s
def binn (W n c : Nat) (s : List Int × List Nat) (j : Nat) : List Int × List Nat := ((besN W n c).take j).foldl (bstep c) s
def bst (W n : Nat) : Nat → List Int × List Nat
  | 0 => ((List.replicate n (-1)).set 0 0, [0])
  | i + 1 => binn W n ((bst W n i).2.getD i 0) (bst W n i) 4
theorem binn_next {W n c j x : Nat} {s : List Int × List Nat} (h : (besN W n c)[j]? = some x) : binn W n c s (j + 1) = bstep c (binn W n c s j) x := by
  unfold binn
  rw [List.take_add_one, h]; simp
theorem binn_all {W n c j : Nat} {s : List Int × List Nat} (h : (besN W n c).length ≤ j) (h4 : j ≤ 4) : binn W n c s j = binn W n c s 4 := by
  unfold binn
  rw [List.take_of_length_le h, List.take_of_length_le (Nat.le_trans h h4)]
def bchk (W n i j : Nat) : Bool :=
  let s0 := bst W n i
  let c := s0.2.getD i 0
  let s := binn W n c s0 j
  !(decide (i < s0.2.length)) || (s.1.length == n && s.2.all (fun x => decide (x < n)) && decide (s.2.length ≤ n) && s.1.all (fun z => decide (-1 ≤ z) && decide (z ≤ 12)) && s.2[i]? == some c && decide (c < n) && decide ((besN W n c).length ≤ 4) && decide (1 ≤ (besN W n c).length) && s.1[c]? == some ((dN W c : Nat) : Int))
def bend (W n i : Nat) : Bool :=
  let s0 := bst W n i
  s0.1.length == n && decide (s0.2.length ≤ n) && (decide (i < s0.2.length) || s0.1 == dstL W n)
theorem bchk_all : ([(2, 2, 4), (3, 2, 6), (4, 2, 8), (2, 3, 6), (3, 3, 9), (4, 3, 12)].all fun s => (fun W _ n => (List.range 13).all fun i => bend W n i && (List.range 5).all fun j => bchk W n i j) s.1 s.2.1 s.2.2) = true := by decide +kernel
theorem bchk_at {W D n i j : Nat} (S : Shp W D n) (hi : i ≤ 12) (hj : j ≤ 4) : bend W n i = true ∧ bchk W n i j = true := by
  have h := S.all (fun W _ n => (List.range 13).all fun i => bend W n i && (List.range 5).all fun j => bchk W n i j) bchk_all
  rw [List.all_eq_true] at h
  have h1 := h i (List.mem_range.2 (by omega))
  rw [Bool.and_eq_true, List.all_eq_true] at h1
  exact ⟨h1.1, h1.2 j (List.mem_range.2 (by omega))⟩
/-- The search stays in its bounds. -/
structure BOk (W n i c : Nat) (s : List Int × List Nat) : Prop where
  len : s.1.length = n
  q : ∀ x ∈ s.2, x < n
  ql : s.2.length ≤ n
  z : ∀ z ∈ s.1, -1 ≤ z ∧ z ≤ 12
  at_ : s.2[i]? = some c
  cn : c < n
  b4 : (besN W n c).length ≤ 4
  b1 : 1 ≤ (besN W n c).length
  far : s.1[c]? = some ((dN W c : Nat) : Int)
theorem bfs_ok {W D n i j : Nat} (S : Shp W D n) (hi : i ≤ 12) (hj : j ≤ 4) (h : i < (bst W n i).2.length) : BOk W n i ((bst W n i).2.getD i 0) (binn W n ((bst W n i).2.getD i 0) (bst W n i) j) := by
  have h1 := (bchk_at S hi hj).2
  unfold bchk at h1
  simp only [h, decide_true, Bool.not_true, Bool.false_or, Bool.and_eq_true, decide_eq_true_eq, beq_iff_eq, List.all_eq_true] at h1
  obtain ⟨⟨⟨⟨⟨⟨⟨⟨a1, a2⟩, a3⟩, a4⟩, a5⟩, a6⟩, a7⟩, a8⟩, a9⟩ := h1
  exact ⟨a1, a2, a3, a4, a5, a6, a7, a8, a9⟩
theorem bfs_end {W D n i : Nat} (S : Shp W D n) (hi : i ≤ 12) : (bst W n i).1.length = n ∧ (bst W n i).2.length ≤ n ∧ ((bst W n i).2.length ≤ i → (bst W n i).1 = dstL W n) := by
  have h1 := (bchk_at (j := 0) S hi (by omega)).1
  unfold bend at h1
  simp only [Bool.and_eq_true, Bool.or_eq_true, decide_eq_true_eq, beq_iff_eq] at h1
  obtain ⟨⟨a1, a2⟩, a3⟩ := h1
  refine ⟨a1, a2, fun h => ?_⟩
  rcases a3 with a3 | a3
  · omega
  · exact a3

/-- The next cell on the way to the gate. -/
def nxt (W c : Nat) : Nat := if W ≤ c then c - W else c - 1
def wchk (W n c : Nat) : Bool :=
  let l := besN W n c
  decide (dN W c ≤ 5) && (c == 0 || (decide (nxt W c < n) && decide (dN W (nxt W c) + 1 = dN W c) && apN W c (nxt W c) == 1 && apN W (nxt W c) c == 1 && (List.range 5).any fun k => l[k]? == some (nxt W c) && (List.range k).all fun i => decide (dN W (l.getD i 0) + 1 ≠ dN W c)))
theorem wchk_all : ([(2, 2, 4), (3, 2, 6), (4, 2, 8), (2, 3, 6), (3, 3, 9), (4, 3, 12)].all fun s => (fun W _ n => (List.range n).all fun c => wchk W n c) s.1 s.2.1 s.2.2) = true := by decide +kernel
theorem nxt_ok {W D n c : Nat} (S : Shp W D n) (hc : c < n) (h0 : c ≠ 0) : nxt W c < n ∧ dN W (nxt W c) + 1 = dN W c ∧ apN W c (nxt W c) = 1 ∧ apN W (nxt W c) c = 1 ∧ ∃ k : Nat, (besN W n c)[k]? = some (nxt W c) ∧ ∀ (i x : Nat), i < k → (besN W n c)[i]? = some x → dN W x + 1 ≠ dN W c := by
  have h := S.all (fun W _ n => (List.range n).all fun c => wchk W n c) wchk_all
  rw [List.all_eq_true] at h
  have h1 := h c (List.mem_range.2 hc)
  unfold wchk at h1
  have h00 : (c == 0) = false := by simpa using h0
  simp only [h00, Bool.false_or, Bool.and_eq_true, decide_eq_true_eq, beq_iff_eq, List.any_eq_true, List.all_eq_true] at h1
  obtain ⟨-, ⟨⟨⟨a1, a2⟩, a3⟩, a4⟩, k, -, a5, a6⟩ := h1
  refine ⟨a1, a2, a3, a4, k, a5, fun i x hi hx => ?_⟩
  have := a6 i (List.mem_range.2 hi)
  simp only [List.getD_eq_getElem?_getD, hx, Option.getD_some] at this
  exact this
theorem dN_le {W D n c : Nat} (S : Shp W D n) (hc : c < n) : dN W c ≤ 5 := by
  have h := S.all (fun W _ n => (List.range n).all fun c => wchk W n c) wchk_all
  rw [List.all_eq_true] at h
  have h1 := h c (List.mem_range.2 hc)
  unfold wchk at h1
  simp only [Bool.and_eq_true, decide_eq_true_eq] at h1
  exact h1.1
theorem dN_zero {W c : Nat} (h : dN W c = 0) : c = 0 := by
  unfold dN at h
  have h2 := Nat.div_add_mod c W
  have h3 : c / W = 0 := Nat.eq_zero_of_add_eq_zero_left h
  have h4 : c % W = 0 := Nat.eq_zero_of_add_eq_zero_right h
  rw [h3, h4, Nat.mul_zero] at h2; omega
theorem dN_gate (W : Nat) : dN W 0 = 0 := by simp [dN]
theorem dst_get {W n c : Nat} (hc : c < n) : (dstL W n)[c]? = some ((dN W c : Nat) : Int) := by
  unfold dstL; rw [List.getElem?_map, List.getElem?_range hc]; rfl
theorem besN_lt {W n a x : Nat} (h : x ∈ besN W n a) : x < n := by
  unfold besN at h; simp at h; exact h.1

/-- The cells of the way from c to the gate, one after the other. -/
def pcN (W c : Nat) : Nat → Nat
  | 0 => c
  | i + 1 => nxt W (pcN W c i)
theorem pcN_ok {W D n c : Nat} (S : Shp W D n) (hc : c < n) : ∀ i, i ≤ dN W c → pcN W c i < n ∧ dN W (pcN W c i) + i = dN W c
  | 0, _ => ⟨hc, rfl⟩
  | i + 1, hi => by
    obtain ⟨h1, h2⟩ := pcN_ok S hc i (by omega)
    have h0 : pcN W c i ≠ 0 := by intro h; rw [h, dN_gate] at h2; omega
    obtain ⟨a1, a2, -⟩ := nxt_ok S h1 h0
    exact ⟨a1, by show dN W (nxt W (pcN W c i)) + (i + 1) = _; omega⟩
theorem pcN_gate {W D n c : Nat} (S : Shp W D n) (hc : c < n) {i : Nat} (hi : i ≤ dN W c) : pcN W c i = 0 ↔ i = dN W c := by
  obtain ⟨-, h2⟩ := pcN_ok S hc i hi
  constructor
  · intro h; rw [h, dN_gate] at h2; omega
  · intro h; exact dN_zero (W := W) (by omega)
/-- The way from c, its first k cells. -/
def wayP (W c k : Nat) : List Nat := (List.range k).map (pcN W c)
def wayI (W c k : Nat) : List Int := (wayP W c k).map fun (j : Nat) => (j : Int)
theorem wayI_next (W c k : Nat) : wayI W c (k + 1) = wayI W c k ++ [((pcN W c k : Nat) : Int)] := by
  unfold wayI wayP; rw [List.range_succ]; simp
theorem wayI_len (W c k : Nat) : (wayI W c k).length = k := by simp [wayI, wayP]
theorem wayI_get {W c k i : Nat} (h : i < k) : (wayI W c k)[i]? = some ((pcN W c i : Nat) : Int) := by
  unfold wayI wayP; rw [List.getElem?_map, List.getElem?_map, List.getElem?_range h]; rfl
end Go.Proofs.YtdebjcempkgeaaaGreatDoor
