/-
  A plan that a call has made, all of it in blocks lo .. hi: how it is kept, marked and held.
-/
import Derived.Test.YtecjhomfoakaeaaIPlan
import Derived.Test.YtecjhomfoakaeaaMarks
namespace Go.Proofs.Ytecjhomfoakaeaa
open Go.ChangeShapes Go.WideShapes Go.ChangeAt Go.RowKit

structure PIn (w : World) (lo hi gO : Nat) (A : Option Addr) (n : Nat) (gs : List Nat) (rows : List (List Int)) : Prop where
  len : rows.length = n
  gl : gs.length = n
  hdr : 0 < n → A = some ⟨gO, 0, none⟩ ∧ lo ≤ gO ∧ gO < hi ∧ gO < w.heap.size
  cell : ∀ (j g : Nat), gs[j]? = some g → g ≠ gO ∧ w.cell? ⟨gO, j, none⟩ = some (.slice (some ⟨g, 0, none⟩) 6 6)
  row : ∀ (j g : Nat) (r : List Int), gs[j]? = some g → rows[j]? = some r → lo ≤ g ∧ g < hi ∧ r.length = 6 ∧ Whole w g 3 (r.map (Value.int .i64))
  inj : ∀ (i j g : Nat), gs[i]? = some g → gs[j]? = some g → i = j
section
variable {w w' : World} {lo hi gO n : Nat} {A : Option Addr} {gs : List Nat} {rows : List (List Int)}
theorem PIn.rowsAt (h : PIn w lo hi gO A n gs rows) : RowsAt w A n rows := by
  refine ⟨h.len, fun k r hr => ?_⟩
  have hk : k < rows.length := (List.getElem?_eq_some_iff.1 hr).1
  have hl := h.len
  have hgl := h.gl
  have hg : gs[k]? = some (gs[k]'(by omega)) := List.getElem?_eq_getElem _
  obtain ⟨e1, e2, e3, e4⟩ := h.hdr (by omega)
  obtain ⟨h1, h2, h3, h4⟩ := h.row k _ r hg hr
  obtain ⟨h5, h6⟩ := h.cell k _ hg
  exact ⟨gO, 0, _, 6, e1, e4, by rw [Nat.zero_add, h3]; exact h6, ints_whole h4 rfl, by omega⟩
theorem PIn.keep (h : PIn w lo hi gO A n gs rows) (hs : w.heap.size ≤ w'.heap.size) (hb : ∀ k, lo ≤ k → k < hi → k < w.heap.size → w'.heap[k]? = w.heap[k]?) : PIn w' lo hi gO A n gs rows := by
  refine ⟨h.len, h.gl, fun h0 => by obtain ⟨e1, e2, e3, e4⟩ := h.hdr h0; exact ⟨e1, e2, e3, by omega⟩, fun j g hg => ?_, fun j g r hg hr => by obtain ⟨h1, h2, h3, h4⟩ := h.row j g r hg hr; exact ⟨h1, h2, h3, (hb g h1 h2 h4.lt).trans h4⟩, h.inj⟩
  have hj : j < gs.length := (List.getElem?_eq_some_iff.1 hg).1
  obtain ⟨e1, e2, e3, e4⟩ := h.hdr (by have := h.gl; omega)
  obtain ⟨h1, h2⟩ := h.cell j g hg
  refine ⟨h1, ?_⟩
  simp only [World.cell?] at h2 ⊢
  rw [hb gO e2 e3 e4]; exact h2
theorem PIn.below (h : PIn w lo hi gO A n gs rows) (hb : Below w.heap.size w w') : PIn w' lo hi gO A n gs rows := h.keep hb.size fun k _ _ hk => hb.block k hk
theorem PIn.grown {lo' hi' : Nat} {u : Value} (h : PIn w lo hi gO A n gs rows) (hg : w.grownBy w' u.ownBlock) (hu : Lies u lo' hi') (hd : hi ≤ lo' ∨ hi' ≤ lo) : PIn w' lo hi gO A n gs rows :=
  h.keep hg.size fun k h1 h2 hk => hg.block k hk (fun e => by have := hu k e.symm; omega)
theorem PIn.empty (w : World) (lo hi gO : Nat) (A : Option Addr) : PIn w lo hi gO A 0 [] [] := ⟨rfl, rfl, fun h => by omega, fun j g h => by simp at h, fun j g r h => by simp at h, fun i j g h => by simp at h⟩
/-- A row is marked. -/
theorem PIn.set (h : PIn w lo hi gO A n gs rows) {j g : Nat} {r' : List Int} (hj : gs[j]? = some g) (hg : w.grownBy w' (some g)) (hW : Whole w' g 3 (r'.map (Value.int .i64))) (hl : r'.length = 6) : PIn w' lo hi gO A n gs (rows.set j r') := by
  have hjl : j < gs.length := (List.getElem?_eq_some_iff.1 hj).1
  have hgl := h.gl
  obtain ⟨e1, e2, e3, e4⟩ := h.hdr (by omega)
  have hne := (h.cell j g hj).1
  refine ⟨by rw [List.length_set]; exact h.len, h.gl, fun _ => ⟨e1, e2, e3, Nat.lt_of_lt_of_le e4 hg.size⟩, fun a b hb => ?_, fun a b r hb hr => ?_, h.inj⟩
  · obtain ⟨h1, h2⟩ := h.cell a b hb
    refine ⟨h1, ?_⟩
    simp only [World.cell?] at h2 ⊢
    rw [hg.block gO e4 (by simp; omega)]; exact h2
  · have hrl := h.len
    by_cases ha : j = a
    · subst ha
      rw [hj] at hb; injection hb with hb; subst hb
      rw [List.getElem?_set_self (by omega)] at hr
      injection hr with hr; subst hr
      obtain ⟨x, hx⟩ : ∃ x, rows[j]? = some x := ⟨_, List.getElem?_eq_getElem (by omega)⟩
      obtain ⟨h1, h2, _⟩ := h.row j g x hj hx
      exact ⟨h1, h2, hl, hW⟩
    · rw [List.getElem?_set_ne ha] at hr
      obtain ⟨h1, h2, h3, h4⟩ := h.row a b r hb hr
      refine ⟨h1, h2, h3, (hg.block b h4.lt (fun e => ?_)).trans h4⟩
      injection e with e
      exact ha (h.inj j a g hj (by rw [hb, e]))
end

/-- What has turned lies in blocks lo .. hi. -/
structure Out (lo hi : Nat) (w w' : World) : Prop where
  os : w'.os = w.os
  tape : w'.tape = w.tape
  output : w'.output = w.output
  size : w.heap.size ≤ w'.heap.size
  block : ∀ k, k < w.heap.size → k < lo ∨ hi ≤ k → w'.heap[k]? = w.heap[k]?
theorem Out.refl (lo hi : Nat) (w : World) : Out lo hi w w := ⟨rfl, rfl, rfl, Nat.le_refl _, fun _ _ _ => rfl⟩
theorem Out.grown {lo hi g : Nat} {w w1 w2 : World} (h : Out lo hi w w1) (hg : w1.grownBy w2 (some g)) (h1 : lo ≤ g) (h2 : g < hi) : Out lo hi w w2 :=
  ⟨hg.os.trans h.os, hg.tape.trans h.tape, hg.output.trans h.output, Nat.le_trans h.size hg.size, fun k hk hd => (hg.block k (Nat.lt_of_lt_of_le hk h.size) (by simp; omega)).trans (h.block k hk hd)⟩
theorem PIn.out {w w' : World} {lo hi lo' hi' gO n : Nat} {A : Option Addr} {gs : List Nat} {rows : List (List Int)} (h : PIn w lo hi gO A n gs rows) (ho : Out lo' hi' w w') (hd : hi ≤ lo' ∨ hi' ≤ lo) : PIn w' lo hi gO A n gs rows :=
  h.keep ho.size fun k h1 h2 hk => ho.block k hk (by omega)
theorem below_out {a w w' : World} {lo hi : Nat} (h : Below a.heap.size a w) (ho : Out lo hi w w') (hd : a.heap.size ≤ lo) : Below a.heap.size a w' :=
  h.trans ⟨ho.os, ho.tape, ho.output, ho.size, fun k hk => ho.block k (Nat.lt_of_lt_of_le hk h.size) (by omega)⟩

theorem whole_own6 {w : World} {g : Nat} {r : List Int} (h : Whole w g 3 (r.map (Value.int .i64))) (hl : r.length = 6) : OwnAt w g 3 1 (.slice (some ⟨g, 0, none⟩) 6 6) 6 (ic r) :=
  own_ints (whole_row h hl (Nat.le_refl _))
theorem own_whole6 {w : World} {B g : Nat} {r : List Int} (h : OwnAt w B 3 1 (.slice (some ⟨g, 0, none⟩) 6 6) 6 (ic r)) : Whole w g 3 (r.map (Value.int .i64)) := by
  rcases h.own.2 with ⟨hv, _⟩ | ⟨g', cap, cur, hv, hg, hcur, h1, h2, h3, h4⟩
  · cases hv
  injection hv with e1 _ e2; injection e1 with e1; injection e1 with e1; subst e1; subst e2
  rw [ic_flat, List.take_of_length_le (by simp; omega)] at h4
  unfold Whole
  rw [← h4]; simpa using hcur
def markR (k : Int) (n : Nat) : List (List Int) := (List.range n).map fun j : Nat => markL (k + 6 * (j : Int)) 6
theorem markL_len (k : Int) (n : Nat) : (markL k n).length = n := by simp [markL]
theorem markR_get (k : Int) {n j : Nat} (h : j < n) : (markR k n)[j]? = some (markL (k + 6 * (j : Int)) 6) := by
  unfold markR; rw [List.getElem?_map, List.getElem?_range h]; rfl
theorem set_take {α : Type} (xs ys : List α) (j : Nat) (y : α) (hl : xs.length = ys.length) (hy : ys[j]? = some y) : (ys.take j ++ xs.drop j).set j y = ys.take (j + 1) ++ xs.drop (j + 1) := by
  have hj : j < ys.length := (List.getElem?_eq_some_iff.1 hy).1
  apply List.ext_getElem?
  intro i
  rw [List.getElem?_set]
  by_cases hij : j = i
  · subst hij
    rw [if_pos rfl, if_pos (by simp; omega), List.getElem?_append_left (by simp; omega), List.getElem?_take, if_pos (by omega)]
    exact hy.symm
  · rw [if_neg hij]
    by_cases h1 : i < j
    · rw [List.getElem?_append_left (by simp; omega), List.getElem?_append_left (by simp; omega), List.getElem?_take, List.getElem?_take, if_pos h1, if_pos (by omega)]
    · rw [List.getElem?_append_right (by simp; omega), List.getElem?_append_right (by simp; omega), List.getElem?_drop, List.getElem?_drop]
      simp only [List.length_take]
      congr 1
      omega

set_option maxHeartbeats 2000000 in
theorem markIntSS_any (A : Option Addr) (n c : Nat) (k : Int) (w : World) (lo hi gO : Nat) (gs : List Nat) (rows : List (List Int)) (ho : PIn w lo hi gO A n gs rows) (hn : n ≤ 5) (h0 : 0 ≤ k) (h1 : k ≤ 1000) :
    Calls Try.prog 14 #[.slice A n c, .int .i64 k] w fun e w' => e = .returned (.int .i64 (k + 6 * n)) ∧ Out lo hi w w' ∧ PIn w' lo hi gO A n gs (markR k n) := by
  have hlm : (markR k n).length = n := by simp [markR]
  go_enter Try.func14, Try.ntmps14
  go_wp2
  go_loopw [1, 5] (fun t i wr => ∃ j : Nat, j ≤ n ∧ i = .int .i64 j ∧ t = .int .i64 (k + 6 * (j : Int)) ∧ PIn wr lo hi gO A n gs ((markR k n).take j ++ rows.drop j) ∧ Out lo hi w wr) (fun _ i _ => n - (intOf i).toNat)
  case atStart => exact ⟨0, Nat.zero_le _, rfl, by simp, by simpa using ho, Out.refl _ _ _⟩
  case round =>
    obtain ⟨j, hj, rfl, rfl, hP, hO⟩ := hrel
    by_cases hlt : j < n
    · have hgl := hP.gl
      have hll := hP.len
      obtain ⟨g, hg⟩ : ∃ g, gs[j]? = some g := ⟨_, List.getElem?_eq_getElem (by omega)⟩
      obtain ⟨r, hr⟩ : ∃ r, ((markR k n).take j ++ rows.drop j)[j]? = some r := ⟨_, List.getElem?_eq_getElem (by omega)⟩
      obtain ⟨b1, b2, b3, b4⟩ := hP.row j g r hg hr
      obtain ⟨rfl, e2, e3, e4⟩ := hP.hdr (by omega)
      have hc := (hP.cell j g hg).2
      have hrl := ho.len
      go_wp2_with fail
      refine (markIntS_any _ 6 6 (k + 6 * (j : Int)) wr g _ (whole_own6 b4 b3) (by omega) (by omega) (by omega)).mono ?_; rintro e w2 ⟨rfl, hg2, ho2⟩
      go_wp2
      go_roundw
      case rel =>
        refine ⟨j + 1, by omega, by go_num, by go_num, ?_, hO.grown hg2 b1 b2⟩
        rw [← set_take rows (markR k n) j (markL (k + 6 * (j : Int)) 6) (by omega) (markR_get k hlt)]
        exact hP.set hg hg2 (own_whole6 ho2) (markL_len _ _)
      case measure => simp [intOf]; omega
    · obtain rfl : j = n := by omega
      go_wp2
      go_ret
      rw [List.take_of_length_le (by omega), List.drop_eq_nil_of_le (by have := ho.len; omega), List.append_nil] at hP
      exact ⟨rfl, hO, hP⟩
set_option maxHeartbeats 2000000 in
theorem heldIntSS_any (A : Option Addr) (n c : Nat) (k : Int) (w : World) (lo hi gO : Nat) (gs : List Nat) (ho : PIn w lo hi gO A n gs (markR k n)) (hn : n ≤ 5) (h0 : 0 ≤ k) (h1 : k ≤ 1000) :
    Calls Try.prog 15 #[.slice A n c, .int .i64 k] w (RS w (.int .i64 (k + 6 * n))) := by
  go_enter Try.func15, Try.ntmps15
  go_wp2
  go_loop [1, 5] (fun t i => ∃ j : Nat, j ≤ n ∧ i = .int .i64 j ∧ t = .int .i64 (k + 6 * (j : Int))) (fun _ i => n - (intOf i).toNat)
  case atStart => exact ⟨0, Nat.zero_le _, rfl, by simp⟩
  case round =>
    obtain ⟨j, hj, rfl, rfl⟩ := hrel
    by_cases hlt : j < n
    · have hgl := ho.gl
      obtain ⟨g, hg⟩ : ∃ g, gs[j]? = some g := ⟨_, List.getElem?_eq_getElem (by omega)⟩
      obtain ⟨b1, b2, b3, b4⟩ := ho.row j g _ hg (markR_get k hlt)
      obtain ⟨rfl, e2, e3, e4⟩ := ho.hdr (by omega)
      have hc := (ho.cell j g hg).2
      go_wp2_with fail
      refine (heldIntS_any _ 6 6 (k + 6 * (j : Int)) w (ints_whole b4 (markL_len _ _)) (by omega) (by omega) (by omega)).mono ?_; rintro e w2 ⟨rfl, rfl⟩
      go_wp2
      go_round
      case rel => exact ⟨j + 1, by omega, by go_num, by go_num⟩
      case measure => simp [intOf]; omega
    · obtain rfl : j = n := by omega
      go_wp2
      go_ret
      exact ⟨rfl, rfl⟩

/-- What MostPlan answers, as a plan in blocks of its own. -/
theorem PlanRes.pin {w w' : World} {rows : List (List Int)} {e : Ending} (h6 : ∀ r ∈ rows, r.length = 6) (h : PlanRes w rows e w') :
    ∃ (A : Option Addr) (n c gO : Nat) (gs : List Nat), e = .returned (.slice A n c) ∧ n = rows.length ∧ PIn w' w.heap.size w'.heap.size gO A n gs rows ∧ Below w.heap.size w w' := by
  obtain ⟨g, n, c, gs, rfl, h1, h2, h3, h4, h5⟩ := h
  have hfar := ownG_far h1
  have hl : gs.length = n := by rw [h2.len, h4]
  refine ⟨_, n, c, g, gs, rfl, h4, ⟨h4.symm, hl, fun _ => ⟨rfl, hfar.1, hfar.2, hfar.2⟩, fun j a ha => ?_, fun j a r ha hr => ?_, fun i j a ha hb => ?_⟩, h5⟩
  · refine ⟨h3 a (List.mem_of_getElem? ha), ?_⟩
    have hj : j < rows.length := by rw [← h2.len]; exact (List.getElem?_eq_some_iff.1 ha).1
    have hr : rows[j]? = some (rows[j]) := List.getElem?_eq_getElem hj
    have hc := (own_flat h1).slAt.row j _ (outc_get ha hr)
    obtain ⟨b, off, hA, _, _, hcc⟩ := hc
    injection hA with hA; injection hA with e1 e2; subst e1; subst e2
    have h7 := hcc 0 _ rfl
    rw [h6 _ (List.getElem_mem hj)] at h7
    simpa [slv] using h7
  · obtain ⟨e1, e2, e3⟩ := h2.each j a r ha hr
    exact ⟨e1, e2, h6 r (List.mem_of_getElem? hr), e3⟩
  · rcases Nat.lt_trichotomy i j with h | h | h
    · have := h2.up i j a a h ha hb; omega
    · exact h
    · have := h2.up j i a a h hb ha; omega
theorem IPlanRes.pin {w w' : World} {rows : List (List Int)} {e : Ending} (h6 : ∀ r ∈ rows, r.length = 6) (h : IPlanRes w rows e w') :
    ∃ (A : Option Addr) (n c gO : Nat) (gs : List Nat), e = .returned (.slice A n c) ∧ n = rows.length ∧ PIn w' w.heap.size w'.heap.size gO A n gs rows ∧ Below w.heap.size w w' := by
  rcases h with ⟨rfl, rfl, hb⟩ | h
  · exact ⟨none, 0, 0, 0, [], rfl, rfl, PIn.empty _ _ _ _ _, hb⟩
  · exact PlanRes.pin h6 h
theorem planR_six (ns : List N4) (feed : List Int) : (∀ r ∈ planR ns feed, r.length = 6) ∧ (planR ns feed).length ≤ 5 := by
  by_cases hok : needsB ns = true ∧ feedB feed = true
  · rw [planR_yes hok.1 hok.2, plan_len]
    refine ⟨fun r hr => ?_, (needsB_ok hok.1).1⟩
    unfold MS.plan at hr
    obtain ⟨k, _, rfl⟩ := List.mem_map.1 hr
    exact row_len _ _
  · rw [planR_no (split_okP hok)]
    exact ⟨by intro r hr; simp at hr, by simp⟩
end Go.Proofs.Ytecjhomfoakaeaa
