/-
  Words and small lemmas that all walks of this seat share: what a call answers ('RV', 'RS'), a slice that reads as a list ('SlAt'), and how both are kept while memory grows.
-/
import Derived.Test.YtdebjcempkgeaaaGreatDoorRows
import Derived.WalkKit
import Derived.ProofKit
import Derived.OpenShut
import Derived.ShutString
import Derived.ChangeOld
import Derived.Below
import Derived.Lib.Hide
import Derived.Lib.SmallJoins
import Derived.Deep.Slices
import Derived.BigQuiet
import Derived.Deep.QuietTactic
namespace Go.Proofs.YtdebjcempkgeaaaGreatDoor
open Go.ChangeShapes Go.WideShapes Go.ChangeAt Go.RowKit

/-- The call answers v; what was there before it is as it was. -/
def RV (w : World) (v : Value) (e : Ending) (w' : World) : Prop := e = .returned v ∧ Below w.heap.size w w'
/-- The call answers v; it makes nothing. -/
def RS (w : World) (v : Value) (e : Ending) (w' : World) : Prop := e = .returned v ∧ w = w'

theorem rv_of_rs {P : Program} {f : FuncId} {args : Array Value} {w : World} {v : Value} (h : Calls P f args w (RS w v)) : Calls P f args w (RV w v) := h.mono fun _ _ ⟨he, hw⟩ => ⟨he, hw ▸ Below.refl _ _⟩
/-- How a slot of a frame is written, for the regions that are walked by hand. -/
theorem put_laws : (∀ (t : Array Value) (d : List Deferred) (k : Nat) (v : Value), Act.put ⟨t, d⟩ (some k) v = ⟨t.setIfInBounds k v, d⟩) ∧ (∀ (l : List Value) (k : Nat) (v : Value), l.toArray.setIfInBounds k v = (l.set k v).toArray) ∧
    (∀ (x : Value) (l : List Value) (v : Value), (x :: l).set 0 v = v :: l) ∧ (∀ (x : Value) (l : List Value) (k : Nat) (v : Value), (x :: l).set (k + 1) v = x :: l.set k v) :=
  ⟨fun _ _ _ _ => rfl, fun _ _ _ => by simp, fun _ _ _ => rfl, fun _ _ _ _ => rfl⟩
theorem ret_bool {a b : Bool} (h : a = b) : Ending.returned (.bool a) = .returned (.bool b) := by rw [h]
theorem ret_int {k : IntKind} {a b : Int} (h : a = b) : Ending.returned (.int k a) = .returned (.int k b) := by rw [h]

theorem bcell {W w1 : World} {N : Nat} (hb : Below W.heap.size W w1) (hN : N ≤ W.heap.size) :
    (∀ b o, b < N → w1.cell? ⟨b, o, none⟩ = W.cell? ⟨b, o, none⟩) ∧ (∀ b o, b < N → w1.frozen? ⟨b, o, none⟩ = W.frozen? ⟨b, o, none⟩) ∧ N ≤ w1.heap.size :=
  ⟨fun b o h => hb.cell (p := ⟨b, o, none⟩) (Nat.lt_of_lt_of_le h hN), fun b o h => hb.frozen (p := ⟨b, o, none⟩) (Nat.lt_of_lt_of_le h hN), Nat.le_trans hN hb.size⟩
theorem below_next {w W w1 : World} (h : Below w.heap.size w W) (hb : Below W.heap.size W w1) : Below w.heap.size w w1 := h.trans (hb.mono h.size)
theorem below_drewN {B : Nat} {a w : World} (h : Below B a w) (n : Nat) : Below B a (w.drewN n) := ⟨h.os, h.tape, h.output, h.size, h.block⟩

/-- The slice (A, n) holds the rows rs, each of sz cells. -/
structure SlAt (w : World) (sz : Nat) (A : Option Addr) (n : Nat) (rs : List (List Value)) : Prop where
  len : rs.length = n
  row : ∀ k r, rs[k]? = some r → ∃ b off, A = some ⟨b, off, none⟩ ∧ b < w.heap.size ∧ r.length = sz ∧ ∀ j v, r[j]? = some v → w.cell? ⟨b, off + k * sz + j, none⟩ = some v

theorem SlAt.below {w w' : World} {sz n : Nat} {A : Option Addr} {rs : List (List Value)} (h : SlAt w sz A n rs) (hb : Below w.heap.size w w') : SlAt w' sz A n rs :=
  ⟨h.len, fun k r hr => by
    obtain ⟨b, off, hA, hlt, hl, hc⟩ := h.row k r hr
    exact ⟨b, off, hA, Nat.lt_of_lt_of_le hlt hb.size, hl, fun j v hv => (hb.cell (p := ⟨b, off + k * sz + j, none⟩) hlt).trans (hc j v hv)⟩⟩
theorem SlAt.drew {w : World} {sz n : Nat} {A : Option Addr} {rs : List (List Value)} (h : SlAt w sz A n rs) (m : Nat) : SlAt (w.drewN m) sz A n rs := ⟨h.len, h.row⟩
theorem SlAt.nil (w : World) (sz : Nat) (A : Option Addr) : SlAt w sz A 0 [] := ⟨rfl, fun k r h => by simp at h⟩

def IntsAt (w : World) (A : Option Addr) (n : Nat) (xs : List Int) : Prop := SlAt w 1 A n (xs.map fun x => [.int .i64 x])
theorem IntsAt.len {w : World} {A : Option Addr} {n : Nat} {xs : List Int} (h : IntsAt w A n xs) : xs.length = n := by simpa using SlAt.len h
theorem IntsAt.get {w : World} {A : Option Addr} {n k : Nat} {xs : List Int} (h : IntsAt w A n xs) (hk : k < n) :
    ∃ x b off, Hid (xs[k]? = some x) ∧ A = some ⟨b, off, none⟩ ∧ b < w.heap.size ∧ w.cell? ⟨b, off + k, none⟩ = some (.int .i64 x) := by
  have hl := h.len
  obtain ⟨x, hx⟩ : ∃ x, xs[k]? = some x := ⟨_, List.getElem?_eq_getElem (by omega)⟩
  obtain ⟨b, off, hA, hlt, _, hc⟩ := SlAt.row h k [.int .i64 x] (by simp [hx])
  exact ⟨x, b, off, hx, hA, hlt, by simpa using hc 0 _ rfl⟩
theorem IntsAt.below {w w' : World} {A : Option Addr} {n : Nat} {xs : List Int} (h : IntsAt w A n xs) (hb : Below w.heap.size w w') : IntsAt w' A n xs := SlAt.below h hb
theorem IntsAt.drew {w : World} {A : Option Addr} {n : Nat} {xs : List Int} (h : IntsAt w A n xs) (m : Nat) : IntsAt (w.drewN m) A n xs := SlAt.drew h m

theorem take_next {α : Type} {xs : List α} {k : Nat} {x : α} (h : Hid (xs[k]? = some x)) : xs.take (k + 1) = xs.take k ++ [x] := by
  have h' := h.out
  rw [List.take_add_one, h']; rfl
theorem take_all {α : Type} {xs : List α} {k n : Nat} (hl : xs.length = n) (h : n ≤ k) : xs.take k = xs := List.take_of_length_le (by omega)

/-- What a region of calls holds on to: below block N the world reads as W did. -/
def Keep (N : Nat) (W w' : World) : Prop :=
  (∀ b o, b < N → w'.cell? ⟨b, o, none⟩ = W.cell? ⟨b, o, none⟩) ∧ Below N W w' ∧ N ≤ w'.heap.size
theorem keep_start {N : Nat} {W : World} (h : N ≤ W.heap.size) : Keep N W W := ⟨fun _ _ _ => rfl, Below.refl _ _, h⟩
theorem keep_drew {N : Nat} {W w' : World} (h : Keep N W w') : Keep N W w'.drew := ⟨fun b o hb => h.1 b o hb, h.2.1.drew, h.2.2⟩
theorem keep_next {N : Nat} {W w1 w2 : World} (h : Keep N W w1) (hb : Below w1.heap.size w1 w2) : Keep N W w2 :=
  ⟨fun b o hk => (hb.cell (p := ⟨b, o, none⟩) (Nat.lt_of_lt_of_le hk h.2.2)).trans (h.1 b o hk), h.2.1.trans (hb.mono h.2.2), Nat.le_trans h.2.2 hb.size⟩
theorem keep_set {N : Nat} {W w1 : World} (h : Keep N W w1) {p : Addr} (hp : N ≤ p.block) (v : Value) : Keep N W (w1.setCell p v) :=
  ⟨fun b o hb => ((Below.refl N w1).setCell hp v |>.cell (p := ⟨b, o, none⟩) hb).trans (h.1 b o hb), h.2.1.setCell hp v, by simp [World.setCell]; exact h.2.2⟩

/-- A slice that the call itself made: it holds the rows rs, in a block from base on that nobody has frozen. -/
structure OwnAt (w : World) (base : Nat) (e : TypeId) (sz : Nat) (v : Value) (n : Nat) (rs : List (List Value)) : Prop where
  own : w.ownsRow base e sz v n rs.flatten
  len : rs.length = n
  one : ∀ r ∈ rs, r.length = sz

theorem flat_get {sz : Nat} : ∀ (rs : List (List Value)), (∀ r ∈ rs, r.length = sz) → ∀ k r j v, rs[k]? = some r → r[j]? = some v → rs.flatten[k * sz + j]? = some v
  | [], _, k, r, j, v, h, _ => by simp at h
  | r0 :: rs, hl, 0, r, j, v, h, hv => by
    simp at h; subst h
    have hj : j < r0.length := (List.getElem?_eq_some_iff.1 hv).1
    rw [List.flatten_cons, Nat.zero_mul, Nat.zero_add, List.getElem?_append_left hj]; exact hv
  | r0 :: rs, hl, k + 1, r, j, v, h, hv => by
    have h0 : r0.length = sz := hl r0 (by simp)
    have ih := flat_get rs (fun r hr => hl r (by simp [hr])) k r j v (by simpa using h) hv
    have he : (k + 1) * sz + j = r0.length + (k * sz + j) := by rw [h0, Nat.succ_mul]; omega
    simp only [List.flatten_cons]
    rw [he, List.getElem?_append_right (by omega)]
    simpa using ih

theorem OwnAt.form {w : World} {base sz n : Nat} {e : TypeId} {v : Value} {rs : List (List Value)} (h : OwnAt w base e sz v n rs) :
    ∃ A c, v = .slice A n c ∧ n ≤ c ∧ c ≤ maxLen := by
  rcases h.own.2 with ⟨rfl, h0⟩ | ⟨g, cap, cur, rfl, _, _, h1, h2, _⟩
  · exact ⟨none, 0, by rw [h0], by omega, by unfold maxLen; omega⟩
  · exact ⟨_, cap, rfl, h1, h2⟩

theorem OwnAt.slAt {w : World} {base sz n c : Nat} {e : TypeId} {A : Option Addr} {rs : List (List Value)} (h : OwnAt w base e sz (.slice A n c) n rs) : SlAt w sz A n rs := by
  refine ⟨h.len, fun k r hr => ?_⟩
  have hk : k < rs.length := (List.getElem?_eq_some_iff.1 hr).1
  have hl := h.one r (List.mem_of_getElem? hr)
  rcases h.own.2 with ⟨hv, h0⟩ | ⟨g, cap, cur, hv, hb, hg, h1, h2, h3, h4⟩
  · have := h.len; omega
  · injection hv with hA hn hc
    subst hA
    refine ⟨g, 0, rfl, (Array.getElem?_eq_some_iff.1 hg).1, hl, fun j v hv => ?_⟩
    have hf := flat_get rs h.one k r j v hr hv
    have := h.own.cells (g := g) rfl _ _ hf
    unfold Addr.add at this
    simp only [Nat.zero_add]
    split at this
    · rename_i hz; simpa [hz] using this
    · simpa using this
theorem OwnAt.below {w w' : World} {base sz n : Nat} {e : TypeId} {v : Value} {rs : List (List Value)} (h : OwnAt w base e sz v n rs) (hb : Below w.heap.size w w') : OwnAt w' base e sz v n rs :=
  ⟨h.own.kept (row := none) ⟨hb.os, hb.tape, hb.output, hb.size, fun k hk _ => hb.block k hk⟩ (by cases v.ownBlock <;> simp), h.len, h.one⟩
theorem OwnAt.drew {w : World} {base sz n : Nat} {e : TypeId} {v : Value} {rs : List (List Value)} (h : OwnAt w base e sz v n rs) (m : Nat) : OwnAt (w.drewN m) base e sz v n rs := h.below (below_drewN (Below.refl _ _) m)
theorem OwnAt.base {w : World} {base base' sz n : Nat} {e : TypeId} {v : Value} {rs : List (List Value)} (h : OwnAt w base e sz v n rs) (hb : base' ≤ base) : OwnAt w base' e sz v n rs :=
  ⟨Joins.ownsRow_le h.own hb, h.len, h.one⟩

/-- Row k of a block, and what its cells say behind a store: the first k + 1 rows. -/
theorem take_set1 (cur : Array Value) (k : Nat) (v : Value) (h : k < cur.size) : (cur.setIfInBounds k v).toList.take (k + 1) = cur.toList.take k ++ [v] := by
  apply List.ext_getElem?
  intro i
  simp only [Array.toList_setIfInBounds, List.getElem?_take, List.getElem?_set, List.getElem?_append, List.length_take, Array.length_toList]
  by_cases h1 : i < k
  · simp [h1, show i < k + 1 by omega, show ¬ k = i by omega, show i < min k cur.size by omega]
  · by_cases h2 : i = k
    · subst h2; simp [h, show min i cur.size = i by omega]
    · simp [show ¬ i < k + 1 by omega, show ¬ i < min k cur.size by omega, List.getElem?_eq_none, show 1 ≤ i - min k cur.size by omega]

/-- Block g is the call's own row of n elements, sz cells each, of which the first k are the rows rs. -/
structure Fill (w : World) (g : Nat) (e : TypeId) (sz n k : Nat) (rs : List (List Value)) : Prop where
  blk : ∃ cur : Array Value, w.heap[g]? = some (.cells cur e (0, 0)) ∧ cur.size = n * sz ∧ cur.toList.take (k * sz) = rs.flatten
  len : rs.length = k
  one : ∀ r ∈ rs, r.length = sz
theorem Fill.start {w : World} {g : Nat} {e : TypeId} {sz n : Nat} {xs : List Value} (h : w.ownsRow g e sz (.slice (some ⟨g, 0, none⟩) n n) n xs) : Fill w g e sz n 0 [] := by
  rcases h.2 with ⟨hv, _⟩ | ⟨g', cap, cur, hv, _, hg, _, _, hs, _⟩
  · cases hv
  · injection hv with h1 _ h3
    injection h1 with h1
    injection h1 with h1
    subst h1; subst h3
    exact ⟨⟨cur, hg, hs, by simp⟩, rfl, by simp⟩
theorem Fill.cell {w : World} {g : Nat} {e : TypeId} {sz n k : Nat} {rs : List (List Value)} (h : Fill w g e sz n k rs) {j : Nat} (hj : j < n * sz) : ∃ u, w.cell? ⟨g, j, none⟩ = some u := by
  obtain ⟨cur, hg, hs, _⟩ := h.blk
  exact ⟨cur[j]'(by omega), by rw [Joins.cell_of_block hg]; exact Array.getElem?_eq_getElem (by omega)⟩
theorem Fill.free {w : World} {g : Nat} {e : TypeId} {sz n k : Nat} {rs : List (List Value)} (h : Fill w g e sz n k rs) (j : Nat) : w.frozen? ⟨g, j, none⟩ = false := by
  obtain ⟨cur, hg, _⟩ := h.blk
  exact Joins.unfrozen_of_block hg j
theorem Fill.below {w w' : World} {g : Nat} {e : TypeId} {sz n k : Nat} {rs : List (List Value)} (h : Fill w g e sz n k rs) (hb : Below w.heap.size w w') : Fill w' g e sz n k rs := by
  obtain ⟨cur, hg, h2⟩ := h.blk
  exact ⟨⟨cur, (hb.block g (Array.getElem?_eq_some_iff.1 hg).1).trans hg, h2⟩, h.len, h.one⟩
theorem Fill.lt {w : World} {g : Nat} {e : TypeId} {sz n k : Nat} {rs : List (List Value)} (h : Fill w g e sz n k rs) : g < w.heap.size := by
  obtain ⟨cur, hg, _⟩ := h.blk
  exact (Array.getElem?_eq_some_iff.1 hg).1
theorem Fill.done {w : World} {g base : Nat} {e : TypeId} {sz n k : Nat} {rs : List (List Value)} (h : Fill w g e sz n k rs) (hk : k = n) (hb : base ≤ g) (hn : n ≤ maxLen) : OwnAt w base e sz (.slice (some ⟨g, 0, none⟩) n n) n rs := by
  subst hk
  obtain ⟨cur, hg, hs, ht⟩ := h.blk
  refine ⟨⟨?_, .inr ⟨g, k, cur, rfl, hb, hg, Nat.le_refl _, hn, hs, ht⟩⟩, h.len, h.one⟩
  rw [← ht, List.length_take, Array.length_toList, hs]; omega
theorem Fill.next1 {w : World} {g : Nat} {e : TypeId} {n k : Nat} {rs : List (List Value)} (h : Fill w g e 1 n k rs) (hk : k < n) (v : Value) : Fill (w.setCell ⟨g, k, none⟩ v) g e 1 n (k + 1) (rs ++ [[v]]) := by
  obtain ⟨cur, hg, hs, ht⟩ := h.blk
  refine ⟨⟨_, Joins.block_setCell hg v, by simpa using hs, ?_⟩, by simp [h.len], fun r hr => ?_⟩
  · simp only [Nat.mul_one] at ht hs ⊢
    rw [take_set1 _ _ _ (by omega), ht]; simp
  · rcases List.mem_append.1 hr with hr | hr
    · exact h.one r hr
    · simp at hr; subst hr; rfl

theorem Fill.next4 {w : World} {g : Nat} {e : TypeId} {n k : Nat} {rs : List (List Value)} (h : Fill w g e 4 n k rs) (hk : k < n) (v0 v1 v2 v3 : Value) :
    Fill ((((w.setCell ⟨g, k * 4, none⟩ v0).setCell ⟨g, k * 4 + 1, none⟩ v1).setCell ⟨g, k * 4 + 2, none⟩ v2).setCell ⟨g, k * 4 + 3, none⟩ v3) g e 4 n (k + 1) (rs ++ [[v0, v1, v2, v3]]) := by
  obtain ⟨cur, hg, hs, ht⟩ := h.blk
  refine ⟨⟨_, Joins.block_setCell (Joins.block_setCell (Joins.block_setCell (Joins.block_setCell hg v0) v1) v2) v3, by simpa using hs, ?_⟩, by simp [h.len], fun r hr => ?_⟩
  · rw [show (k + 1) * 4 = k * 4 + 3 + 1 by omega, take_set1 _ (k * 4 + 3) _ (by simp; omega), take_set1 _ (k * 4 + 2) _ (by simp; omega), take_set1 _ (k * 4 + 1) _ (by simp; omega), take_set1 _ (k * 4) _ (by omega), ht]
    simp
  · rcases List.mem_append.1 hr with hr | hr
    · exact h.one r hr
    · simp at hr; subst hr; rfl
theorem Fill.next3 {w : World} {g : Nat} {e : TypeId} {n k : Nat} {rs : List (List Value)} (h : Fill w g e 3 n k rs) (hk : k < n) (v0 v1 v2 : Value) :
    Fill (((w.setCell ⟨g, k * 3, none⟩ v0).setCell ⟨g, k * 3 + 1, none⟩ v1).setCell ⟨g, k * 3 + 2, none⟩ v2) g e 3 n (k + 1) (rs ++ [[v0, v1, v2]]) := by
  obtain ⟨cur, hg, hs, ht⟩ := h.blk
  refine ⟨⟨_, Joins.block_setCell (Joins.block_setCell (Joins.block_setCell hg v0) v1) v2, by simpa using hs, ?_⟩, by simp [h.len], fun r hr => ?_⟩
  · rw [show (k + 1) * 3 = k * 3 + 2 + 1 by omega, take_set1 _ (k * 3 + 2) _ (by simp; omega), take_set1 _ (k * 3 + 1) _ (by simp; omega), take_set1 _ (k * 3) _ (by omega), ht]
    simp
  · rcases List.mem_append.1 hr with hr | hr
    · exact h.one r hr
    · simp at hr; subst hr; rfl

/-- Block g is known whole: just the cells cs, none frozen. -/
def Whole (w : World) (g : Nat) (e : TypeId) (cs : List Value) : Prop := w.heap[g]? = some (.cells cs.toArray e (0, 0))
theorem Whole.lt {w : World} {g : Nat} {e : TypeId} {cs : List Value} (h : Whole w g e cs) : g < w.heap.size := (Array.getElem?_eq_some_iff.1 h).1
theorem Whole.cell {w : World} {g : Nat} {e : TypeId} {cs : List Value} (h : Whole w g e cs) (i : Nat) : w.cell? ⟨g, i, none⟩ = cs[i]? := by
  rw [Joins.cell_of_block h]; simp
theorem Whole.free {w : World} {g : Nat} {e : TypeId} {cs : List Value} (h : Whole w g e cs) (i : Nat) : w.frozen? ⟨g, i, none⟩ = false := Joins.unfrozen_of_block h i
theorem Whole.set_ {w : World} {g : Nat} {e : TypeId} {cs : List Value} (h : Whole w g e cs) (i : Nat) (v : Value) : Whole (w.setCell ⟨g, i, none⟩ v) g e (cs.set i v) := by
  have := Joins.block_setCell (i := i) h v
  unfold Whole; rw [this]; simp
theorem Whole.far {w : World} {g : Nat} {e : TypeId} {cs : List Value} (h : Whole w g e cs) {p : Addr} (hp : g ≠ p.block) (v : Value) : Whole (w.setCell p v) g e cs := (Below.heap_setCell w p v g hp).trans h
theorem Whole.alloc {w : World} {g : Nat} {e : TypeId} {cs : List Value} (h : Whole w g e cs) (o : Obj) : Whole (w.alloc o) g e cs := (Below.heap_alloc w o g h.lt).trans h
theorem Whole.belowN {w w' : World} {g N : Nat} {e : TypeId} {cs : List Value} (h : Whole w g e cs) (hb : Below N w w') (hg : g < N) : Whole w' g e cs := (hb.block g hg).trans h
theorem Whole.keepB {w w' : World} {g : Nat} {e : TypeId} {cs : List Value} {row : Option Nat} (h : Whole w g e cs) (hg : w.grownBy w' row) (hr : row ≠ some g) : Whole w' g e cs := (hg.block g h.lt (fun hh => hr hh.symm)).trans h
theorem Whole.below {w w' : World} {g : Nat} {e : TypeId} {cs : List Value} (h : Whole w g e cs) (hb : Below w.heap.size w w') : Whole w' g e cs := h.belowN hb h.lt
theorem Whole.drew {w : World} {g : Nat} {e : TypeId} {cs : List Value} (h : Whole w g e cs) : Whole w.drew g e cs := h
theorem Whole.new (w : World) (e : TypeId) (cs : List Value) : Whole (w.alloc (.cells cs.toArray e)) w.heap.size e cs := heap_alloc_new w _
theorem Fill.whole {w : World} {g : Nat} {e : TypeId} {sz n k : Nat} {rs : List (List Value)} (h : Fill w g e sz n k rs) (hk : k = n) : Whole w g e rs.flatten := by
  subst hk
  obtain ⟨cur, hg, hs, ht⟩ := h.blk
  have : cur = rs.flatten.toArray := by
    rw [← ht, List.take_of_length_le (by simp [hs])]
  rw [this] at hg; exact hg
theorem Fill.belowN {w w' : World} {g N : Nat} {e : TypeId} {sz n k : Nat} {rs : List (List Value)} (h : Fill w g e sz n k rs) (hb : Below N w w') (hg : g < N) : Fill w' g e sz n k rs := by
  obtain ⟨cur, hg', h2⟩ := h.blk
  exact ⟨⟨cur, (hb.block g hg).trans hg', h2⟩, h.len, h.one⟩
theorem Fill.far {w : World} {g : Nat} {e : TypeId} {sz n k : Nat} {rs : List (List Value)} (h : Fill w g e sz n k rs) {p : Addr} (hp : g ≠ p.block) (v : Value) : Fill (w.setCell p v) g e sz n k rs := by
  obtain ⟨cur, hg', h2⟩ := h.blk
  exact ⟨⟨cur, (Below.heap_setCell w p v g hp).trans hg', h2⟩, h.len, h.one⟩
theorem Fill.alloc {w : World} {g : Nat} {e : TypeId} {sz n k : Nat} {rs : List (List Value)} (h : Fill w g e sz n k rs) (o : Obj) : Fill (w.alloc o) g e sz n k rs := by
  obtain ⟨cur, hg', h2⟩ := h.blk
  exact ⟨⟨cur, (Below.heap_alloc w o g (Array.getElem?_eq_some_iff.1 hg').1).trans hg', h2⟩, h.len, h.one⟩
theorem Whole.fill0 {w : World} {g : Nat} {e : TypeId} {sz n : Nat} {cs : List Value} (h : Whole w g e cs) (hs : cs.length = n * sz) : Fill w g e sz n 0 [] :=
  ⟨⟨cs.toArray, h, by simpa using hs, by simp⟩, rfl, by simp⟩
theorem Whole.own {w : World} {g base : Nat} {e : TypeId} {sz n : Nat} {rs : List (List Value)} (h : Whole w g e rs.flatten) (hl : rs.length = n) (h1 : ∀ r ∈ rs, r.length = sz) (hb : base ≤ g) (hm : n ≤ maxLen) :
    OwnAt w base e sz (.slice (some ⟨g, 0, none⟩) n n) n rs := by
  have hlen : ∀ (rs : List (List Value)), (∀ r ∈ rs, r.length = sz) → rs.flatten.length = rs.length * sz := by
    intro rs
    induction rs with
    | nil => simp
    | cons r rs ih => intro h; simp only [List.flatten_cons, List.length_append, List.length_cons, ih (fun r hr => h r (by simp [hr])), h r (by simp), Nat.succ_mul]; omega
  have hfl := hlen rs h1
  rw [hl] at hfl
  exact ⟨⟨hfl, .inr ⟨g, n, _, rfl, hb, h, Nat.le_refl _, hm, by simpa using hfl, by rw [← hfl]; exact List.take_of_length_le (Nat.le_refl _)⟩⟩, hl, h1⟩

theorem Fill.at1 {w : World} {g : Nat} {e : TypeId} {n k j : Nat} {rs : List (List Value)} {v : Value} (h : Fill w g e 1 n k rs) (hj : rs[j]? = some [v]) : w.cell? ⟨g, j, none⟩ = some v := by
  obtain ⟨cur, hg, hs, ht⟩ := h.blk
  have hf := flat_get rs h.one j [v] 0 v hj rfl
  rw [← ht, List.getElem?_take] at hf
  rw [Joins.cell_of_block hg]
  split at hf
  · simpa using hf
  · cases hf

/-- What an append of a few elements reads: the block that was just made for them. -/
theorem new_cells (w : World) (e : TypeId) (cs : List Value) : ∀ (j : Nat) (u : Value), cs[j]? = some u → (w.alloc (.cells cs.toArray e)).cell? ((⟨w.heap.size, 0, none⟩ : Addr).add j) = some u := by
  intro j u hu
  have h := (Whole.new w e cs).cell j
  have ha : (⟨w.heap.size, 0, none⟩ : Addr).add j = ⟨w.heap.size, j, none⟩ := by unfold Addr.add; split <;> simp_all
  rw [ha, h, hu]
theorem one_cells {k : IntKind} (x : Int) : ∀ (u : Value), u ∈ [Value.int k x] → u.oneCell' = true := by
  intro u hu; simp at hu; subst hu; rfl

end Go.Proofs.YtdebjcempkgeaaaGreatDoor
