/-
  ReadCar of the reference.
-/
import Derived.Test.YtecjhomfoakaeaaDoorRead1
import Derived.Test.YtecjhomfoakaeaaDoorCarTx
import Derived.Deep.RegionWith
namespace Go.Proofs.YtecjhomfoakaeaaDoor
open Go.ChangeShapes Go.WideShapes Go.ChangeAt Go.RowKit

/-- What ReadCar answers: the valid car whose text it is, or none. -/
def ReadRes (s : List UInt8) (w : World) (e : Ending) (w' : World) : Prop :=
  ((∃ f t r u : Int, carB f t r u = true ∧ carT f t r u = s ∧ e = .returned (.tuple #[.agg #[.int .i64 f, .int .i64 t, .int .i64 r, .int .i64 u], .bool true])) ∨
    ((∀ f t r u : Int, carB f t r u = true → carT f t r u ≠ s) ∧ e = .returned (.tuple #[.agg #[.int .i64 0, .int .i64 0, .int .i64 0, .int .i64 0], .bool false]))) ∧ Below w.heap.size w w'

theorem num_free : ∀ n : Nat, n < 100 → (∀ b ∈ numT n, b ≠ 58) ∧ (∀ b ∈ numT n, b ≠ 120) ∧ readN (numT n) = (n : Int) ∧ numT n ≠ [] := by decide +kernel
/-- The text of a valid car, cut. -/
theorem carT_cut {f t r u : Int} (h : carB f t r u = true) : ∃ R, cutL 58 (carT f t r u) = [numT f.toNat, R] ∧ cutL 120 R = [numT t.toNat, numT r.toNat, numT u.toNat] ∧ readN (numT f.toNat) = f ∧ readN (numT t.toNat) = t ∧ readN (numT r.toNat) = r ∧ readN (numT u.toNat) = u := by
  have hs := carB_spec h
  obtain ⟨f, rfl⟩ : ∃ k : Nat, f = k := ⟨f.toNat, by omega⟩
  obtain ⟨t, rfl⟩ : ∃ k : Nat, t = k := ⟨t.toNat, by omega⟩
  obtain ⟨r, rfl⟩ : ∃ k : Nat, r = k := ⟨r.toNat, by omega⟩
  obtain ⟨u, rfl⟩ : ∃ k : Nat, u = k := ⟨u.toNat, by omega⟩
  simp only [Int.toNat_natCast]
  obtain ⟨f1, f2, f3, f4⟩ := num_free f (by omega)
  obtain ⟨t1, t2, t3, t4⟩ := num_free t (by omega)
  obtain ⟨r1, r2, r3, r4⟩ := num_free r (by omega)
  obtain ⟨u1, u2, u3, u4⟩ := num_free u (by omega)
  refine ⟨numT t ++ 120 :: (numT r ++ 120 :: numT u), ?_, ?_, f3, t3, r3, u3⟩
  · have e : carT f t r u = numT f ++ 58 :: (numT t ++ 120 :: (numT r ++ 120 :: numT u)) := by
      unfold carT; rw [h]; simp
    rw [e, cutL_at f1, cutL_free]
    intro b hb
    simp only [List.mem_append, List.mem_cons] at hb
    rcases hb with hb | rfl | hb | rfl | hb
    · exact t1 b hb
    · decide
    · exact r1 b hb
    · decide
    · exact u1 b hb
  · rw [cutL_at t2, cutL_at r2, cutL_free u2]
/-- A text that is not cut so is no car's. -/
theorem carT_no {s : List UInt8} (h : ∀ F R T Q U, cutL 58 s = [F, R] → cutL 120 R = [T, Q, U] → carT (readN F) (readN T) (readN Q) (readN U) = s → False) : ∀ f t r u : Int, carB f t r u = true → carT f t r u ≠ s := by
  intro f t r u hv he
  obtain ⟨R, h1, h2, e1, e2, e3, e4⟩ := carT_cut hv
  rw [he] at h1
  exact h _ _ _ _ _ h1 h2 (by rw [e1, e2, e3, e4]; exact he)
theorem carT_ok {s : List UInt8} {f t r u : Int} (hs : s ≠ []) (h : carT f t r u = s) : carB f t r u = true := by
  cases hv : carB f t r u
  · exfalso; apply hs; rw [← h]; unfold carT; rw [hv]; rfl
  · rfl

theorem ownS_cell {w : World} {base g n c : Nat} {e : TypeId} {vs : List Value} (h : w.ownsRow base e 1 (.slice (some ⟨g, 0, none⟩) n c) n vs) {j : Nat} {v : Value} (hv : vs[j]? = some v) : w.cell? ⟨g, j, none⟩ = some v := by
  have hc := h.cells (g := g) rfl j v hv
  unfold Addr.add at hc
  split at hc
  · rename_i hz; simpa [hz] using hc
  · simpa using hc
theorem ownS_keep {w w' : World} {base sz n : Nat} {e : TypeId} {v : Value} {xs : List Value} (h : w.ownsRow base e sz v n xs) (hb : Below w.heap.size w w') : w'.ownsRow base e sz v n xs :=
  h.kept (row := none) ⟨hb.os, hb.tape, hb.output, hb.size, fun k hk _ => hb.block k hk⟩ (by cases v.ownBlock <;> simp)
theorem len_two {α : Type} {l : List α} (h : l.length = 2) : ∃ a b, l = [a, b] := by
  match l, h with
  | [a, b], _ => exact ⟨a, b, rfl⟩
theorem len_three {α : Type} {l : List α} (h : l.length = 3) : ∃ a b c, l = [a, b, c] := by
  match l, h with
  | [a, b, c], _ => exact ⟨a, b, c, rfl⟩
theorem cut_len {sep : UInt8} : ∀ {s : List UInt8} {p : List UInt8}, p ∈ cutL sep s → p.length ≤ s.length
  | [], p, h => by simp [cutL] at h; subst h; simp
  | b :: s, p, h => by
    unfold cutL at h
    split at h
    · rcases List.mem_cons.1 h with rfl | h
      · simp
      · have := cut_len (s := s) h; simp; omega
    · cases hc : cutL sep s with
      | nil => rw [hc] at h; simp at h; subst h; simp
      | cons q qs =>
        rw [hc] at h
        rcases List.mem_cons.1 h with rfl | h
        · have := cut_len (s := s) (p := q) (by rw [hc]; simp); simp; omega
        · have := cut_len (s := s) (p := p) (by rw [hc]; simp [h]); simp; omega
theorem cut_none {sep : UInt8} : cutL sep [] = [[]] := rfl

set_option maxRecDepth 100000 in
set_option maxHeartbeats 4000000 in
theorem specReadCar_any (s : List UInt8) (w : World) (hl : s.length ≤ 1048576) : Calls Tryd.prog 6 #[.string ⟨s.toArray⟩] w (ReadRes s w) := by
  have hW := Whole.new w 23 [.int .i64 0, .int .i64 0, .int .i64 0, .int .i64 0]
  have hB1 : Below w.heap.size w (w.alloc (.cells #[.int .i64 0, .int .i64 0, .int .i64 0, .int .i64 0] 23)) := (Below.refl _ _).alloc (Nat.le_refl _) _
  go_enter Tryd.func6, Tryd.ntmps6
  go_wp2_with fail
  refine (l1Cut_any s 58 _ hl).mono ?_; rintro e w1 ⟨g, n, c, rfl, hn, hO1, hb1⟩
  have hW1 := hW.below hb1
  have hB2 := below_next hB1 hb1
  obtain ⟨Q, hQ⟩ : ∃ x, Hid (x = w.heap.size) := ⟨_, rfl⟩
  rw [← hQ.out] at hW1 ⊢
  have hz0 := hW1.free 0
  have hz1 := hW1.free 1
  have hz2 := hW1.free 2
  have hz3 := hW1.free 3
  have hq0 := hW1.cell 0
  have hq1 := hW1.cell 1
  have hq2 := hW1.cell 2
  have hq3 := hW1.cell 3
  simp only [List.getElem?_cons_zero, List.getElem?_cons_succ] at hq0 hq1 hq2 hq3
  have HN := Lib.hid hn
  by_cases hn2 : n = 2
  case neg =>
    have hd : ((n : Int) != 2) = true := by simp; omega
    have HNO := Lib.hid (carT_no (s := s) fun F R T P U h1 _ _ => hn2 (by rw [hn, h1]; rfl))
    clear hn2 hn
    go_wp2
    have hE := (((hW1.set_ 0 (.int .i64 0)).set_ 1 (.int .i64 0)).set_ 2 (.int .i64 0)).set_ 3 (.int .i64 0)
    have hBE := (((hB2.setCell (p := ⟨Q, 0, none⟩) (by rw [hQ.out]; exact Nat.le_refl _) (.int .i64 0)).setCell (p := ⟨Q, 1, none⟩) (by rw [hQ.out]; exact Nat.le_refl _) (.int .i64 0)).setCell (p := ⟨Q, 2, none⟩) (by rw [hQ.out]; exact Nat.le_refl _) (.int .i64 0)).setCell (p := ⟨Q, 3, none⟩) (by rw [hQ.out]; exact Nat.le_refl _) (.int .i64 0)
    generalize (((w1.setCell ⟨Q, 0, none⟩ (.int .i64 0)).setCell ⟨Q, 1, none⟩ (.int .i64 0)).setCell ⟨Q, 2, none⟩ (.int .i64 0)).setCell ⟨Q, 3, none⟩ (.int .i64 0) = wz at *
    have e0 : wz.cell? ⟨Q, 0, none⟩ = some (.int .i64 0) := hE.cell 0
    have e1 : wz.cell? ⟨Q, 1, none⟩ = some (.int .i64 0) := hE.cell 1
    have e2 : wz.cell? ⟨Q, 2, none⟩ = some (.int .i64 0) := hE.cell 2
    have e3 : wz.cell? ⟨Q, 3, none⟩ = some (.int .i64 0) := hE.cell 3
    exact bodyPost_ret (v := .tuple #[.agg #[.int .i64 0, .int .i64 0, .int .i64 0, .int .i64 0], .bool false]) (by simp [results, Tryd.results6, go_sem, e0, e1, e2, e3]) rfl ⟨.inr ⟨HNO.out, rfl⟩, hBE⟩
  subst hn2
  obtain ⟨F, R, hc2⟩ := len_two hn.symm
  rw [hc2] at hO1
  have hF1 : F.length ≤ 1048576 := by have := cut_len (sep := 58) (s := s) (p := F) (by rw [hc2]; simp); omega
  have hR1 : R.length ≤ 1048576 := by have := cut_len (sep := 58) (s := s) (p := R) (by rw [hc2]; simp); omega
  have HC2 := Lib.hid hc2
  have d0 : w1.cell? ⟨g, 0, none⟩ = some (.string ⟨F.toArray⟩) := ownS_cell hO1 rfl
  have d1 : w1.cell? ⟨g, 1, none⟩ = some (.string ⟨R.toArray⟩) := ownS_cell hO1 rfl
  have hgl := (hO1.lt g rfl).2
  have hQl := hW1.lt
  clear hc2 hn HN
  go_wp2_with fail
  refine (l1Cut_any R 120 _ hR1).mono ?_; rintro e w2 ⟨g2, n2, c2, rfl, hn, hO2, hb2⟩
  have hW2 := hW1.below hb2
  have hB3 := below_next hB2 hb2
  have hO1' := ownS_keep hO1 hb2
  have k0 := hW2.free 0
  have k1 := hW2.free 1
  have k2 := hW2.free 2
  have k3 := hW2.free 3
  have p0 := hW2.cell 0
  have p1 := hW2.cell 1
  have p2 := hW2.cell 2
  have p3 := hW2.cell 3
  simp only [List.getElem?_cons_zero, List.getElem?_cons_succ] at p0 p1 p2 p3
  clear hz0 hz1 hz2 hz3 hq0 hq1 hq2 hq3 d0 d1 hW1 hB2 hO1 hb2
  by_cases hn3 : n2 = 3
  case neg =>
    have hd : ((n2 : Int) != 3) = true := by simp; omega
    have HNO := Lib.hid (carT_no (s := s) fun F' R' T P U h1 h2 _ => hn3 (by rw [HC2.out] at h1; injection h1 with _ h1; injection h1 with h1 _; subst h1; rw [hn, h2]; rfl))
    clear hn3 hn
    go_wp2
    have hE := (((hW2.set_ 0 (.int .i64 0)).set_ 1 (.int .i64 0)).set_ 2 (.int .i64 0)).set_ 3 (.int .i64 0)
    have hBE := (((hB3.setCell (p := ⟨Q, 0, none⟩) (by rw [hQ.out]; exact Nat.le_refl _) (.int .i64 0)).setCell (p := ⟨Q, 1, none⟩) (by rw [hQ.out]; exact Nat.le_refl _) (.int .i64 0)).setCell (p := ⟨Q, 2, none⟩) (by rw [hQ.out]; exact Nat.le_refl _) (.int .i64 0)).setCell (p := ⟨Q, 3, none⟩) (by rw [hQ.out]; exact Nat.le_refl _) (.int .i64 0)
    generalize (((w2.setCell ⟨Q, 0, none⟩ (.int .i64 0)).setCell ⟨Q, 1, none⟩ (.int .i64 0)).setCell ⟨Q, 2, none⟩ (.int .i64 0)).setCell ⟨Q, 3, none⟩ (.int .i64 0) = wz at *
    have e0 : wz.cell? ⟨Q, 0, none⟩ = some (.int .i64 0) := hE.cell 0
    have e1 : wz.cell? ⟨Q, 1, none⟩ = some (.int .i64 0) := hE.cell 1
    have e2 : wz.cell? ⟨Q, 2, none⟩ = some (.int .i64 0) := hE.cell 2
    have e3 : wz.cell? ⟨Q, 3, none⟩ = some (.int .i64 0) := hE.cell 3
    exact bodyPost_ret (v := .tuple #[.agg #[.int .i64 0, .int .i64 0, .int .i64 0, .int .i64 0], .bool false]) (by simp [results, Tryd.results6, go_sem, e0, e1, e2, e3]) rfl ⟨.inr ⟨HNO.out, rfl⟩, hBE⟩
  subst hn3
  obtain ⟨T, P, U, hc3⟩ := len_three hn.symm
  rw [hc3] at hO2
  have hT1 : T.length ≤ 1048576 := by have := cut_len (sep := 120) (s := R) (p := T) (by rw [hc3]; simp); omega
  have hP1 : P.length ≤ 1048576 := by have := cut_len (sep := 120) (s := R) (p := P) (by rw [hc3]; simp); omega
  have hU1 : U.length ≤ 1048576 := by have := cut_len (sep := 120) (s := R) (p := U) (by rw [hc3]; simp); omega
  have HC3 := Lib.hid hc3
  have d0 : w2.cell? ⟨g, 0, none⟩ = some (.string ⟨F.toArray⟩) := ownS_cell hO1' rfl
  have t0 : w2.cell? ⟨g2, 0, none⟩ = some (.string ⟨T.toArray⟩) := ownS_cell hO2 rfl
  have t1 : w2.cell? ⟨g2, 1, none⟩ = some (.string ⟨P.toArray⟩) := ownS_cell hO2 rfl
  have t2 : w2.cell? ⟨g2, 2, none⟩ = some (.string ⟨U.toArray⟩) := ownS_cell hO2 rfl
  have hgl2 := (hO1'.lt g rfl).2
  have hg2l := (hO2.lt g2 rfl).2
  have hQ2 := hW2.lt
  clear hc3 hn
  have hne1 : g ≠ w2.heap.size := by omega
  have hne2 : g2 ≠ w2.heap.size := by omega
  have hne3 : Q ≠ w2.heap.size := by omega
  have r0 := l1Read_any F
  have r1 := l1Read_any T
  have r2 := l1Read_any P
  have r3 := l1Read_any U
  obtain ⟨a, ha⟩ : ∃ x, Hid (x = readN F) := ⟨_, rfl⟩
  obtain ⟨b, hb⟩ : ∃ x, Hid (x = readN T) := ⟨_, rfl⟩
  obtain ⟨cc, hcc⟩ : ∃ x, Hid (x = readN P) := ⟨_, rfl⟩
  obtain ⟨dd, hdd⟩ : ∃ x, Hid (x = readN U) := ⟨_, rfl⟩
  rw [← ha.out] at r0
  rw [← hb.out] at r1
  rw [← hcc.out] at r2
  rw [← hdd.out] at r3
  go_wp2_with fail
  have hA0 : (w2.alloc (.cells #[.int .i64 0, .int .i64 0, .int .i64 0, .int .i64 0] 23)).drew.cell? ⟨g, 0, none⟩ = some (.string ⟨F.toArray⟩) := (World.cell?_alloc_lt _ _ _ hgl2).trans d0
  have hA1 : (w2.alloc (.cells #[.int .i64 0, .int .i64 0, .int .i64 0, .int .i64 0] 23)).drew.cell? ⟨g2, 0, none⟩ = some (.string ⟨T.toArray⟩) := (World.cell?_alloc_lt _ _ _ hg2l).trans t0
  have hA2 : (w2.alloc (.cells #[.int .i64 0, .int .i64 0, .int .i64 0, .int .i64 0] 23)).drew.cell? ⟨g2, 1, none⟩ = some (.string ⟨P.toArray⟩) := (World.cell?_alloc_lt _ _ _ hg2l).trans t1
  have hA3 : (w2.alloc (.cells #[.int .i64 0, .int .i64 0, .int .i64 0, .int .i64 0] 23)).drew.cell? ⟨g2, 2, none⟩ = some (.string ⟨U.toArray⟩) := (World.cell?_alloc_lt _ _ _ hg2l).trans t2
  have hZ0 : (w2.alloc (.cells #[.int .i64 a, .int .i64 b, .int .i64 cc, .int .i64 dd] 23)).drew.cell? ⟨g, 0, none⟩ = some (.string ⟨F.toArray⟩) := (World.cell?_alloc_lt _ _ _ hgl2).trans d0
  have hZ1 : (w2.alloc (.cells #[.int .i64 a, .int .i64 b, .int .i64 cc, .int .i64 dd] 23)).drew.cell? ⟨g2, 0, none⟩ = some (.string ⟨T.toArray⟩) := (World.cell?_alloc_lt _ _ _ hg2l).trans t0
  have hZ2 : (w2.alloc (.cells #[.int .i64 a, .int .i64 b, .int .i64 cc, .int .i64 dd] 23)).drew.cell? ⟨g2, 1, none⟩ = some (.string ⟨P.toArray⟩) := (World.cell?_alloc_lt _ _ _ hg2l).trans t1
  have hZ3 : (w2.alloc (.cells #[.int .i64 a, .int .i64 b, .int .i64 cc, .int .i64 dd] 23)).drew.cell? ⟨g2, 2, none⟩ = some (.string ⟨U.toArray⟩) := (World.cell?_alloc_lt _ _ _ hg2l).trans t2
  have hX3 : Whole (w2.alloc (.cells #[.int .i64 a, .int .i64 b, .int .i64 cc, .int .i64 dd] 23)).drew w2.heap.size 23 [.int .i64 a, .int .i64 b, .int .i64 cc, .int .i64 dd] := Whole.new w2 _ _
  have hb24 : Below w2.heap.size w2 (w2.alloc (.cells #[.int .i64 a, .int .i64 b, .int .i64 cc, .int .i64 dd] 23)).drew := ((Below.refl _ _).alloc (Nat.le_refl _) _).drew
  have hW4 := hW2.below hb24
  have hB4 := below_next hB3 hb24
  have hsne : s ≠ [] := by rintro rfl; have h := HC2.out; simp [cutL] at h
  refine wp_region_held_drew (S := fun w' => w'.cell? ⟨g, 0, none⟩ = some (.string ⟨F.toArray⟩) ∧ w'.cell? ⟨g2, 0, none⟩ = some (.string ⟨T.toArray⟩) ∧ w'.cell? ⟨g2, 1, none⟩ = some (.string ⟨P.toArray⟩) ∧ w'.cell? ⟨g2, 2, none⟩ = some (.string ⟨U.toArray⟩)) (by kernel_rfl) ?_ (fun hHeld => ?_)
  · (try dsimp only); exact ⟨d0, t0, t1, t2⟩
  refine wpAnyH_take (i := 0) (v := ?vz1_0) (by simp only [List.getElem?_toArray, List.getElem?_cons_zero]; rfl) (by kernel_rfl) (by kernel_rfl) (by kernel_rfl) (by exact fun _ _ _ h => h) (Or.inl ⟨by rfl, ?hz1_0⟩) hHeld ?rz1_0
  case hz1_0 => (intro w hSw; (try dsimp only at hSw); go_simp; (try with_reducible rfl))
  try simp only [put_laws]
  refine wpAnyH_take (i := 1) (v := ?vz2_1) (by simp only [List.getElem?_toArray, List.getElem?_cons_succ, List.getElem?_cons_zero]; rfl) (by kernel_rfl) (by kernel_rfl) (by kernel_rfl) (by exact fun _ _ _ h => h) (Or.inl ⟨by rfl, ?hz2_1⟩) hHeld ?rz2_1
  case hz2_1 => (intro w hSw; (try dsimp only at hSw); go_simp; (try with_reducible rfl))
  try simp only [put_laws]
  refine wpAnyH_take (i := 2) (v := ?vz3_2) (by simp only [List.getElem?_toArray, List.getElem?_cons_succ, List.getElem?_cons_zero]; rfl) (by kernel_rfl) (by kernel_rfl) (by kernel_rfl) (by exact fun _ _ _ h => h) (Or.inl ⟨by rfl, ?hz3_2⟩) hHeld ?rz3_2
  case hz3_2 => (intro w hSw; (try dsimp only at hSw); go_simp; (try with_reducible rfl))
  try simp only [put_laws]
  refine wpAnyH_take (i := 4) (v := ?vz4_4) (by simp only [List.getElem?_toArray, List.getElem?_cons_succ, List.getElem?_cons_zero]; rfl) (by kernel_rfl) (by kernel_rfl) (by kernel_rfl) (by exact fun _ _ _ h => h) (Or.inl ⟨by rfl, ?hz4_4⟩) hHeld ?rz4_4
  case hz4_4 => (intro w hSw; (try dsimp only at hSw); go_simp; (try with_reducible rfl))
  try simp only [put_laws]
  refine wpAnyH_take (i := 5) (v := ?vz5_5) (by simp only [List.getElem?_toArray, List.getElem?_cons_succ, List.getElem?_cons_zero]; rfl) (by kernel_rfl) (by kernel_rfl) (by kernel_rfl) (by exact fun _ _ _ h => h) (Or.inl ⟨by rfl, ?hz5_5⟩) hHeld ?rz5_5
  case hz5_5 => (intro w hSw; (try dsimp only at hSw); go_simp; (try with_reducible rfl))
  try simp only [put_laws]
  refine wpAnyH_take (i := 6) (v := ?vz6_6) (by simp only [List.getElem?_toArray, List.getElem?_cons_succ, List.getElem?_cons_zero]; rfl) (by kernel_rfl) (by kernel_rfl) (by kernel_rfl) (by exact fun _ _ _ h => h) (Or.inl ⟨by rfl, ?hz6_6⟩) hHeld ?rz6_6
  case hz6_6 => (intro w hSw; (try dsimp only at hSw); go_simp; (try with_reducible rfl))
  try simp only [put_laws]
  refine wpAnyH_take (i := 8) (v := ?vz7_8) (by simp only [List.getElem?_toArray, List.getElem?_cons_succ, List.getElem?_cons_zero]; rfl) (by kernel_rfl) (by kernel_rfl) (by kernel_rfl) (by exact fun _ _ _ h => h) (Or.inl ⟨by rfl, ?hz7_8⟩) hHeld ?rz7_8
  case hz7_8 => (intro w hSw; (try dsimp only at hSw); go_simp; (try with_reducible rfl))
  try simp only [put_laws]
  refine wpAnyH_take (i := 9) (v := ?vz8_9) (by simp only [List.getElem?_toArray, List.getElem?_cons_succ, List.getElem?_cons_zero]; rfl) (by kernel_rfl) (by kernel_rfl) (by kernel_rfl) (by exact fun _ _ _ h => h) (Or.inl ⟨by rfl, ?hz8_9⟩) hHeld ?rz8_9
  case hz8_9 => (intro w hSw; (try dsimp only at hSw); go_simp; (try with_reducible rfl))
  try simp only [put_laws]
  refine wpAnyH_take (i := 10) (v := ?vz9_10) (by simp only [List.getElem?_toArray, List.getElem?_cons_succ, List.getElem?_cons_zero]; rfl) (by kernel_rfl) (by kernel_rfl) (by kernel_rfl) (by exact fun _ _ _ h => h) (Or.inl ⟨by rfl, ?hz9_10⟩) hHeld ?rz9_10
  case hz9_10 => (intro w hSw; (try dsimp only at hSw); go_simp; (try with_reducible rfl))
  try simp only [put_laws]
  refine wpAnyH_take (i := 12) (v := ?vz10_12) (by simp only [List.getElem?_toArray, List.getElem?_cons_succ, List.getElem?_cons_zero]; rfl) (by kernel_rfl) (by kernel_rfl) (by kernel_rfl) (by exact fun _ _ _ h => h) (Or.inl ⟨by rfl, ?hz10_12⟩) hHeld ?rz10_12
  case hz10_12 => (intro w hSw; (try dsimp only at hSw); go_simp; (try with_reducible rfl))
  try simp only [put_laws]
  refine wpAnyH_take (i := 13) (v := ?vz11_13) (by simp only [List.getElem?_toArray, List.getElem?_cons_succ, List.getElem?_cons_zero]; rfl) (by kernel_rfl) (by kernel_rfl) (by kernel_rfl) (by exact fun _ _ _ h => h) (Or.inl ⟨by rfl, ?hz11_13⟩) hHeld ?rz11_13
  case hz11_13 => (intro w hSw; (try dsimp only at hSw); go_simp; (try with_reducible rfl))
  try simp only [put_laws]
  refine wpAnyH_take (i := 14) (v := ?vz12_14) (by simp only [List.getElem?_toArray, List.getElem?_cons_succ, List.getElem?_cons_zero]; rfl) (by kernel_rfl) (by kernel_rfl) (by kernel_rfl) (by exact fun _ _ _ h => h) (Or.inl ⟨by rfl, ?hz12_14⟩) hHeld ?rz12_14
  case hz12_14 => (intro w hSw; (try dsimp only at hSw); go_simp; (try with_reducible rfl))
  try simp only [put_laws]
  refine wpAnyH_ready (rs := [3, 17]) (by kernel_rfl) (by simp) ?_
  refine AllReadyH.cons (by simp only [List.getElem?_toArray, List.getElem?_cons_succ, List.getElem?_cons_zero]; rfl) (fun K hK => ?_) (AllReadyH.cons (by simp only [List.getElem?_toArray, List.getElem?_cons_succ, List.getElem?_cons_zero]; rfl) (fun K hK => ?_) AllReadyH.nil)
  · skip
    go_simp
    refine (r0 _ hF1).mono ?_; rintro e wx ⟨rfl, rfl⟩
    refine hK.out _ _ ?_ (fun hHeld => ?_)
    · (try dsimp only); exact ⟨d0, t0, t1, t2⟩
    clear hK K
    try simp only [put_laws]
    refine wpAnyH_ready (rs := [7, 17]) (by kernel_rfl) (by simp) ?_
    refine AllReadyH.cons (by simp only [List.getElem?_toArray, List.getElem?_cons_succ, List.getElem?_cons_zero]; rfl) (fun K hK => ?_) (AllReadyH.cons (by simp only [List.getElem?_toArray, List.getElem?_cons_succ, List.getElem?_cons_zero]; rfl) (fun K hK => ?_) AllReadyH.nil)
    · skip
      go_simp
      refine (r1 _ hT1).mono ?_; rintro e wx ⟨rfl, rfl⟩
      refine hK.out _ _ ?_ (fun hHeld => ?_)
      · (try dsimp only); exact ⟨d0, t0, t1, t2⟩
      clear hK K
      try simp only [put_laws]
      refine wpAnyH_ready (rs := [11, 17]) (by kernel_rfl) (by simp) ?_
      refine AllReadyH.cons (by simp only [List.getElem?_toArray, List.getElem?_cons_succ, List.getElem?_cons_zero]; rfl) (fun K hK => ?_) (AllReadyH.cons (by simp only [List.getElem?_toArray, List.getElem?_cons_succ, List.getElem?_cons_zero]; rfl) (fun K hK => ?_) AllReadyH.nil)
      · skip
        go_simp
        refine (r2 _ hP1).mono ?_; rintro e wx ⟨rfl, rfl⟩
        refine hK.out _ _ ?_ (fun hHeld => ?_)
        · (try dsimp only); exact ⟨d0, t0, t1, t2⟩
        clear hK K
        try simp only [put_laws]
        refine wpAnyH_ready (rs := [15, 17]) (by kernel_rfl) (by simp) ?_
        refine AllReadyH.cons (by simp only [List.getElem?_toArray, List.getElem?_cons_succ, List.getElem?_cons_zero]; rfl) (fun K hK => ?_) (AllReadyH.cons (by simp only [List.getElem?_toArray, List.getElem?_cons_succ, List.getElem?_cons_zero]; rfl) (fun K hK => ?_) AllReadyH.nil)
        · skip
          go_simp
          refine (r3 _ hU1).mono ?_; rintro e wx ⟨rfl, rfl⟩
          refine hK.out _ _ ?_ (fun hHeld => ?_)
          · (try dsimp only); exact ⟨d0, t0, t1, t2⟩
          clear hK K
          try simp only [put_laws]
          refine wpAnyH_take (i := 16) (v := ?vz13_16) (by simp only [List.getElem?_toArray, List.getElem?_cons_succ, List.getElem?_cons_zero]; rfl) (by kernel_rfl) (by kernel_rfl) (by kernel_rfl) (by exact fun _ _ _ h => h) (Or.inl ⟨by rfl, ?hz13_16⟩) hHeld ?rz13_16
          case hz13_16 => (intro w hSw; (try dsimp only at hSw); go_simp; (try with_reducible rfl))
          try simp only [put_laws]
          refine wpAnyH_ready (rs := [17]) (by kernel_rfl) (by simp) ?_
          refine AllReadyH.cons (by simp only [List.getElem?_toArray, List.getElem?_cons_succ, List.getElem?_cons_zero]; rfl) (fun K hK => ?_) AllReadyH.nil
          go_simp
          refine hK.out _ _ ?_ (fun hHeld => ?_)
          · (try dsimp only); exact ⟨hA0, hA1, hA2, hA3⟩
          clear hK K
          try simp only [put_laws]
          refine wpAnyH_ready (rs := [18]) (by kernel_rfl) (by simp) ?_
          refine AllReadyH.cons (by simp only [List.getElem?_toArray, List.getElem?_cons_succ, List.getElem?_cons_zero]; rfl) (fun K hK => ?_) AllReadyH.nil
          go_simp
          refine hK.out _ _ ?_ (fun hHeld => ?_)
          · (try dsimp only); exact ⟨hZ0, hZ1, hZ2, hZ3⟩
          clear hK K
          try simp only [put_laws]
          refine wpAnyH_done (by kernel_rfl) ?_ _
          clear hHeld hA0 hA1 hA2 hA3 hZ0 hZ1 hZ2 hZ3
          have hX4 := hX3
          have hBx := hB4
          have p0' := p0
          have p1' := p1
          have p2' := p2
          have p3' := p3
          generalize (w2.alloc (.cells #[.int .i64 a, .int .i64 b, .int .i64 cc, .int .i64 dd] 23)).drew = w4 at *
          have x0 := hX4.cell 0
          have x1 := hX4.cell 1
          have x2 := hX4.cell 2
          have x3 := hX4.cell 3
          simp only [List.getElem?_cons_zero, List.getElem?_cons_succ] at x0 x1 x2 x3
          go_wp2_with fail
          refine (specCarText_any a b cc dd _).mono ?_; rintro e w5 ⟨rfl, hb5⟩
          have hX5 := hX4.below hb5
          have hW5 := hW4.below hb5
          have hB5 := below_next hBx hb5
          have HW5 := Lib.hid hW5
          have HB5 := Lib.hid hB5
          have y0 := hX5.cell 0
          have y1 := hX5.cell 1
          have y2 := hX5.cell 2
          have y3 := hX5.cell 3
          have v0 := hW5.cell 0
          have v1 := hW5.cell 1
          have v2 := hW5.cell 2
          have v3 := hW5.cell 3
          have m0 := hW5.free 0
          have m1 := hW5.free 1
          have m2 := hW5.free 2
          have m3 := hW5.free 3
          simp only [List.getElem?_cons_zero, List.getElem?_cons_succ] at y0 y1 y2 y3 v0 v1 v2 v3
          clear x0 x1 x2 x3 hX4 hBx hW4 hX5 hW5 hB5 hb5
          by_cases he : carT a b cc dd = s
          · have HV := Lib.hid (carT_ok hsne he)
            have HE := Lib.hid he
            rw [he]
            clear he
            go_wp2
            have hE := (((HW5.out.set_ 0 (.int .i64 a)).set_ 1 (.int .i64 b)).set_ 2 (.int .i64 cc)).set_ 3 (.int .i64 dd)
            have hBE := (((HB5.out.setCell (p := ⟨Q, 0, none⟩) (by rw [hQ.out]; exact Nat.le_refl _) (.int .i64 a)).setCell (p := ⟨Q, 1, none⟩) (by rw [hQ.out]; exact Nat.le_refl _) (.int .i64 b)).setCell (p := ⟨Q, 2, none⟩) (by rw [hQ.out]; exact Nat.le_refl _) (.int .i64 cc)).setCell (p := ⟨Q, 3, none⟩) (by rw [hQ.out]; exact Nat.le_refl _) (.int .i64 dd)
            generalize (((w5.setCell ⟨Q, 0, none⟩ (.int .i64 a)).setCell ⟨Q, 1, none⟩ (.int .i64 b)).setCell ⟨Q, 2, none⟩ (.int .i64 cc)).setCell ⟨Q, 3, none⟩ (.int .i64 dd) = wz at *
            have e0 : wz.cell? ⟨Q, 0, none⟩ = some (.int .i64 a) := hE.cell 0
            have e1 : wz.cell? ⟨Q, 1, none⟩ = some (.int .i64 b) := hE.cell 1
            have e2 : wz.cell? ⟨Q, 2, none⟩ = some (.int .i64 cc) := hE.cell 2
            have e3 : wz.cell? ⟨Q, 3, none⟩ = some (.int .i64 dd) := hE.cell 3
            exact bodyPost_ret (v := .tuple #[.agg #[.int .i64 a, .int .i64 b, .int .i64 cc, .int .i64 dd], .bool true]) (by simp [results, Tryd.results6, go_sem, e0, e1, e2, e3]) rfl ⟨.inl ⟨a, b, cc, dd, HV.out, HE.out, rfl⟩, hBE⟩
          · have HNO := Lib.hid (carT_no (s := s) fun F' R' T' P' U' h1 h2 h3 => he (by rw [HC2.out] at h1; injection h1 with f1 h1; injection h1 with h1 _; subst f1; subst h1; rw [HC3.out] at h2; injection h2 with f2 h2; injection h2 with f3 h2; injection h2 with f4 _; subst f2; subst f3; subst f4; rw [ha.out, hb.out, hcc.out, hdd.out]; exact h3))
            obtain ⟨X, hX⟩ : ∃ x, Hid (x = carT a b cc dd) := ⟨_, rfl⟩
            rw [← hX.out] at he ⊢
            have hneb : (X == s) = false := by simpa using he
            clear he
            go_wp2
            have hE := (((HW5.out.set_ 0 (.int .i64 0)).set_ 1 (.int .i64 0)).set_ 2 (.int .i64 0)).set_ 3 (.int .i64 0)
            have hBE := (((HB5.out.setCell (p := ⟨Q, 0, none⟩) (by rw [hQ.out]; exact Nat.le_refl _) (.int .i64 0)).setCell (p := ⟨Q, 1, none⟩) (by rw [hQ.out]; exact Nat.le_refl _) (.int .i64 0)).setCell (p := ⟨Q, 2, none⟩) (by rw [hQ.out]; exact Nat.le_refl _) (.int .i64 0)).setCell (p := ⟨Q, 3, none⟩) (by rw [hQ.out]; exact Nat.le_refl _) (.int .i64 0)
            generalize (((w5.setCell ⟨Q, 0, none⟩ (.int .i64 0)).setCell ⟨Q, 1, none⟩ (.int .i64 0)).setCell ⟨Q, 2, none⟩ (.int .i64 0)).setCell ⟨Q, 3, none⟩ (.int .i64 0) = wz at *
            have e0 : wz.cell? ⟨Q, 0, none⟩ = some (.int .i64 0) := hE.cell 0
            have e1 : wz.cell? ⟨Q, 1, none⟩ = some (.int .i64 0) := hE.cell 1
            have e2 : wz.cell? ⟨Q, 2, none⟩ = some (.int .i64 0) := hE.cell 2
            have e3 : wz.cell? ⟨Q, 3, none⟩ = some (.int .i64 0) := hE.cell 3
            exact bodyPost_ret (v := .tuple #[.agg #[.int .i64 0, .int .i64 0, .int .i64 0, .int .i64 0], .bool false]) (by simp [results, Tryd.results6, go_sem, e0, e1, e2, e3]) rfl ⟨.inr ⟨HNO.out, rfl⟩, hBE⟩
        · skip
          go_simp
          refine hK.out _ _ ?_ (fun hHeld => ?_)
          · (try dsimp only); exact ⟨hA0, hA1, hA2, hA3⟩
          clear hK K
          try simp only [put_laws]
          refine wpAnyH_ready (rs := [15]) (by kernel_rfl) (by simp) ?_
          refine AllReadyH.cons (by simp only [List.getElem?_toArray, List.getElem?_cons_succ, List.getElem?_cons_zero]; rfl) (fun K hK => ?_) AllReadyH.nil
          go_simp
          refine (r3 _ hU1).mono ?_; rintro e wx ⟨rfl, rfl⟩
          refine hK.out _ _ ?_ (fun hHeld => ?_)
          · (try dsimp only); exact ⟨hA0, hA1, hA2, hA3⟩
          clear hK K
          try simp only [put_laws]
          refine wpAnyH_take (i := 16) (v := ?vz14_16) (by simp only [List.getElem?_toArray, List.getElem?_cons_succ, List.getElem?_cons_zero]; rfl) (by kernel_rfl) (by kernel_rfl) (by kernel_rfl) (by exact fun _ _ _ h => h) (Or.inl ⟨by rfl, ?hz14_16⟩) hHeld ?rz14_16
          case hz14_16 => (intro w hSw; (try dsimp only at hSw); go_simp; (try with_reducible rfl))
          try simp only [put_laws]
          refine wpAnyH_ready (rs := [18]) (by kernel_rfl) (by simp) ?_
          refine AllReadyH.cons (by simp only [List.getElem?_toArray, List.getElem?_cons_succ, List.getElem?_cons_zero]; rfl) (fun K hK => ?_) AllReadyH.nil
          go_simp
          refine hK.out _ _ ?_ (fun hHeld => ?_)
          · (try dsimp only); exact ⟨hZ0, hZ1, hZ2, hZ3⟩
          clear hK K
          try simp only [put_laws]
          refine wpAnyH_done (by kernel_rfl) ?_ _
          clear hHeld hA0 hA1 hA2 hA3 hZ0 hZ1 hZ2 hZ3
          have hX4 := hX3
          have hBx := hB4
          have p0' := p0
          have p1' := p1
          have p2' := p2
          have p3' := p3
          generalize (w2.alloc (.cells #[.int .i64 a, .int .i64 b, .int .i64 cc, .int .i64 dd] 23)).drew = w4 at *
          have x0 := hX4.cell 0
          have x1 := hX4.cell 1
          have x2 := hX4.cell 2
          have x3 := hX4.cell 3
          simp only [List.getElem?_cons_zero, List.getElem?_cons_succ] at x0 x1 x2 x3
          go_wp2_with fail
          refine (specCarText_any a b cc dd _).mono ?_; rintro e w5 ⟨rfl, hb5⟩
          have hX5 := hX4.below hb5
          have hW5 := hW4.below hb5
          have hB5 := below_next hBx hb5
          have HW5 := Lib.hid hW5
          have HB5 := Lib.hid hB5
          have y0 := hX5.cell 0
          have y1 := hX5.cell 1
          have y2 := hX5.cell 2
          have y3 := hX5.cell 3
          have v0 := hW5.cell 0
          have v1 := hW5.cell 1
          have v2 := hW5.cell 2
          have v3 := hW5.cell 3
          have m0 := hW5.free 0
          have m1 := hW5.free 1
          have m2 := hW5.free 2
          have m3 := hW5.free 3
          simp only [List.getElem?_cons_zero, List.getElem?_cons_succ] at y0 y1 y2 y3 v0 v1 v2 v3
          clear x0 x1 x2 x3 hX4 hBx hW4 hX5 hW5 hB5 hb5
          by_cases he : carT a b cc dd = s
          · have HV := Lib.hid (carT_ok hsne he)
            have HE := Lib.hid he
            rw [he]
            clear he
            go_wp2
            have hE := (((HW5.out.set_ 0 (.int .i64 a)).set_ 1 (.int .i64 b)).set_ 2 (.int .i64 cc)).set_ 3 (.int .i64 dd)
            have hBE := (((HB5.out.setCell (p := ⟨Q, 0, none⟩) (by rw [hQ.out]; exact Nat.le_refl _) (.int .i64 a)).setCell (p := ⟨Q, 1, none⟩) (by rw [hQ.out]; exact Nat.le_refl _) (.int .i64 b)).setCell (p := ⟨Q, 2, none⟩) (by rw [hQ.out]; exact Nat.le_refl _) (.int .i64 cc)).setCell (p := ⟨Q, 3, none⟩) (by rw [hQ.out]; exact Nat.le_refl _) (.int .i64 dd)
            generalize (((w5.setCell ⟨Q, 0, none⟩ (.int .i64 a)).setCell ⟨Q, 1, none⟩ (.int .i64 b)).setCell ⟨Q, 2, none⟩ (.int .i64 cc)).setCell ⟨Q, 3, none⟩ (.int .i64 dd) = wz at *
            have e0 : wz.cell? ⟨Q, 0, none⟩ = some (.int .i64 a) := hE.cell 0
            have e1 : wz.cell? ⟨Q, 1, none⟩ = some (.int .i64 b) := hE.cell 1
            have e2 : wz.cell? ⟨Q, 2, none⟩ = some (.int .i64 cc) := hE.cell 2
            have e3 : wz.cell? ⟨Q, 3, none⟩ = some (.int .i64 dd) := hE.cell 3
            exact bodyPost_ret (v := .tuple #[.agg #[.int .i64 a, .int .i64 b, .int .i64 cc, .int .i64 dd], .bool true]) (by simp [results, Tryd.results6, go_sem, e0, e1, e2, e3]) rfl ⟨.inl ⟨a, b, cc, dd, HV.out, HE.out, rfl⟩, hBE⟩
          · have HNO := Lib.hid (carT_no (s := s) fun F' R' T' P' U' h1 h2 h3 => he (by rw [HC2.out] at h1; injection h1 with f1 h1; injection h1 with h1 _; subst f1; subst h1; rw [HC3.out] at h2; injection h2 with f2 h2; injection h2 with f3 h2; injection h2 with f4 _; subst f2; subst f3; subst f4; rw [ha.out, hb.out, hcc.out, hdd.out]; exact h3))
            obtain ⟨X, hX⟩ : ∃ x, Hid (x = carT a b cc dd) := ⟨_, rfl⟩
            rw [← hX.out] at he ⊢
            have hneb : (X == s) = false := by simpa using he
            clear he
            go_wp2
            have hE := (((HW5.out.set_ 0 (.int .i64 0)).set_ 1 (.int .i64 0)).set_ 2 (.int .i64 0)).set_ 3 (.int .i64 0)
            have hBE := (((HB5.out.setCell (p := ⟨Q, 0, none⟩) (by rw [hQ.out]; exact Nat.le_refl _) (.int .i64 0)).setCell (p := ⟨Q, 1, none⟩) (by rw [hQ.out]; exact Nat.le_refl _) (.int .i64 0)).setCell (p := ⟨Q, 2, none⟩) (by rw [hQ.out]; exact Nat.le_refl _) (.int .i64 0)).setCell (p := ⟨Q, 3, none⟩) (by rw [hQ.out]; exact Nat.le_refl _) (.int .i64 0)
            generalize (((w5.setCell ⟨Q, 0, none⟩ (.int .i64 0)).setCell ⟨Q, 1, none⟩ (.int .i64 0)).setCell ⟨Q, 2, none⟩ (.int .i64 0)).setCell ⟨Q, 3, none⟩ (.int .i64 0) = wz at *
            have e0 : wz.cell? ⟨Q, 0, none⟩ = some (.int .i64 0) := hE.cell 0
            have e1 : wz.cell? ⟨Q, 1, none⟩ = some (.int .i64 0) := hE.cell 1
            have e2 : wz.cell? ⟨Q, 2, none⟩ = some (.int .i64 0) := hE.cell 2
            have e3 : wz.cell? ⟨Q, 3, none⟩ = some (.int .i64 0) := hE.cell 3
            exact bodyPost_ret (v := .tuple #[.agg #[.int .i64 0, .int .i64 0, .int .i64 0, .int .i64 0], .bool false]) (by simp [results, Tryd.results6, go_sem, e0, e1, e2, e3]) rfl ⟨.inr ⟨HNO.out, rfl⟩, hBE⟩
      · skip
        go_simp
        refine hK.out _ _ ?_ (fun hHeld => ?_)
        · (try dsimp only); exact ⟨hA0, hA1, hA2, hA3⟩
        clear hK K
        try simp only [put_laws]
        refine wpAnyH_ready (rs := [11]) (by kernel_rfl) (by simp) ?_
        refine AllReadyH.cons (by simp only [List.getElem?_toArray, List.getElem?_cons_succ, List.getElem?_cons_zero]; rfl) (fun K hK => ?_) AllReadyH.nil
        go_simp
        refine (r2 _ hP1).mono ?_; rintro e wx ⟨rfl, rfl⟩
        refine hK.out _ _ ?_ (fun hHeld => ?_)
        · (try dsimp only); exact ⟨hA0, hA1, hA2, hA3⟩
        clear hK K
        try simp only [put_laws]
        refine wpAnyH_ready (rs := [15]) (by kernel_rfl) (by simp) ?_
        refine AllReadyH.cons (by simp only [List.getElem?_toArray, List.getElem?_cons_succ, List.getElem?_cons_zero]; rfl) (fun K hK => ?_) AllReadyH.nil
        go_simp
        refine (r3 _ hU1).mono ?_; rintro e wx ⟨rfl, rfl⟩
        refine hK.out _ _ ?_ (fun hHeld => ?_)
        · (try dsimp only); exact ⟨hA0, hA1, hA2, hA3⟩
        clear hK K
        try simp only [put_laws]
        refine wpAnyH_take (i := 16) (v := ?vz15_16) (by simp only [List.getElem?_toArray, List.getElem?_cons_succ, List.getElem?_cons_zero]; rfl) (by kernel_rfl) (by kernel_rfl) (by kernel_rfl) (by exact fun _ _ _ h => h) (Or.inl ⟨by rfl, ?hz15_16⟩) hHeld ?rz15_16
        case hz15_16 => (intro w hSw; (try dsimp only at hSw); go_simp; (try with_reducible rfl))
        try simp only [put_laws]
        refine wpAnyH_ready (rs := [18]) (by kernel_rfl) (by simp) ?_
        refine AllReadyH.cons (by simp only [List.getElem?_toArray, List.getElem?_cons_succ, List.getElem?_cons_zero]; rfl) (fun K hK => ?_) AllReadyH.nil
        go_simp
        refine hK.out _ _ ?_ (fun hHeld => ?_)
        · (try dsimp only); exact ⟨hZ0, hZ1, hZ2, hZ3⟩
        clear hK K
        try simp only [put_laws]
        refine wpAnyH_done (by kernel_rfl) ?_ _
        clear hHeld hA0 hA1 hA2 hA3 hZ0 hZ1 hZ2 hZ3
        have hX4 := hX3
        have hBx := hB4
        have p0' := p0
        have p1' := p1
        have p2' := p2
        have p3' := p3
        generalize (w2.alloc (.cells #[.int .i64 a, .int .i64 b, .int .i64 cc, .int .i64 dd] 23)).drew = w4 at *
        have x0 := hX4.cell 0
        have x1 := hX4.cell 1
        have x2 := hX4.cell 2
        have x3 := hX4.cell 3
        simp only [List.getElem?_cons_zero, List.getElem?_cons_succ] at x0 x1 x2 x3
        go_wp2_with fail
        refine (specCarText_any a b cc dd _).mono ?_; rintro e w5 ⟨rfl, hb5⟩
        have hX5 := hX4.below hb5
        have hW5 := hW4.below hb5
        have hB5 := below_next hBx hb5
        have HW5 := Lib.hid hW5
        have HB5 := Lib.hid hB5
        have y0 := hX5.cell 0
        have y1 := hX5.cell 1
        have y2 := hX5.cell 2
        have y3 := hX5.cell 3
        have v0 := hW5.cell 0
        have v1 := hW5.cell 1
        have v2 := hW5.cell 2
        have v3 := hW5.cell 3
        have m0 := hW5.free 0
        have m1 := hW5.free 1
        have m2 := hW5.free 2
        have m3 := hW5.free 3
        simp only [List.getElem?_cons_zero, List.getElem?_cons_succ] at y0 y1 y2 y3 v0 v1 v2 v3
        clear x0 x1 x2 x3 hX4 hBx hW4 hX5 hW5 hB5 hb5
        by_cases he : carT a b cc dd = s
        · have HV := Lib.hid (carT_ok hsne he)
          have HE := Lib.hid he
          rw [he]
          clear he
          go_wp2
          have hE := (((HW5.out.set_ 0 (.int .i64 a)).set_ 1 (.int .i64 b)).set_ 2 (.int .i64 cc)).set_ 3 (.int .i64 dd)
          have hBE := (((HB5.out.setCell (p := ⟨Q, 0, none⟩) (by rw [hQ.out]; exact Nat.le_refl _) (.int .i64 a)).setCell (p := ⟨Q, 1, none⟩) (by rw [hQ.out]; exact Nat.le_refl _) (.int .i64 b)).setCell (p := ⟨Q, 2, none⟩) (by rw [hQ.out]; exact Nat.le_refl _) (.int .i64 cc)).setCell (p := ⟨Q, 3, none⟩) (by rw [hQ.out]; exact Nat.le_refl _) (.int .i64 dd)
          generalize (((w5.setCell ⟨Q, 0, none⟩ (.int .i64 a)).setCell ⟨Q, 1, none⟩ (.int .i64 b)).setCell ⟨Q, 2, none⟩ (.int .i64 cc)).setCell ⟨Q, 3, none⟩ (.int .i64 dd) = wz at *
          have e0 : wz.cell? ⟨Q, 0, none⟩ = some (.int .i64 a) := hE.cell 0
          have e1 : wz.cell? ⟨Q, 1, none⟩ = some (.int .i64 b) := hE.cell 1
          have e2 : wz.cell? ⟨Q, 2, none⟩ = some (.int .i64 cc) := hE.cell 2
          have e3 : wz.cell? ⟨Q, 3, none⟩ = some (.int .i64 dd) := hE.cell 3
          exact bodyPost_ret (v := .tuple #[.agg #[.int .i64 a, .int .i64 b, .int .i64 cc, .int .i64 dd], .bool true]) (by simp [results, Tryd.results6, go_sem, e0, e1, e2, e3]) rfl ⟨.inl ⟨a, b, cc, dd, HV.out, HE.out, rfl⟩, hBE⟩
        · have HNO := Lib.hid (carT_no (s := s) fun F' R' T' P' U' h1 h2 h3 => he (by rw [HC2.out] at h1; injection h1 with f1 h1; injection h1 with h1 _; subst f1; subst h1; rw [HC3.out] at h2; injection h2 with f2 h2; injection h2 with f3 h2; injection h2 with f4 _; subst f2; subst f3; subst f4; rw [ha.out, hb.out, hcc.out, hdd.out]; exact h3))
          obtain ⟨X, hX⟩ : ∃ x, Hid (x = carT a b cc dd) := ⟨_, rfl⟩
          rw [← hX.out] at he ⊢
          have hneb : (X == s) = false := by simpa using he
          clear he
          go_wp2
          have hE := (((HW5.out.set_ 0 (.int .i64 0)).set_ 1 (.int .i64 0)).set_ 2 (.int .i64 0)).set_ 3 (.int .i64 0)
          have hBE := (((HB5.out.setCell (p := ⟨Q, 0, none⟩) (by rw [hQ.out]; exact Nat.le_refl _) (.int .i64 0)).setCell (p := ⟨Q, 1, none⟩) (by rw [hQ.out]; exact Nat.le_refl _) (.int .i64 0)).setCell (p := ⟨Q, 2, none⟩) (by rw [hQ.out]; exact Nat.le_refl _) (.int .i64 0)).setCell (p := ⟨Q, 3, none⟩) (by rw [hQ.out]; exact Nat.le_refl _) (.int .i64 0)
          generalize (((w5.setCell ⟨Q, 0, none⟩ (.int .i64 0)).setCell ⟨Q, 1, none⟩ (.int .i64 0)).setCell ⟨Q, 2, none⟩ (.int .i64 0)).setCell ⟨Q, 3, none⟩ (.int .i64 0) = wz at *
          have e0 : wz.cell? ⟨Q, 0, none⟩ = some (.int .i64 0) := hE.cell 0
          have e1 : wz.cell? ⟨Q, 1, none⟩ = some (.int .i64 0) := hE.cell 1
          have e2 : wz.cell? ⟨Q, 2, none⟩ = some (.int .i64 0) := hE.cell 2
          have e3 : wz.cell? ⟨Q, 3, none⟩ = some (.int .i64 0) := hE.cell 3
          exact bodyPost_ret (v := .tuple #[.agg #[.int .i64 0, .int .i64 0, .int .i64 0, .int .i64 0], .bool false]) (by simp [results, Tryd.results6, go_sem, e0, e1, e2, e3]) rfl ⟨.inr ⟨HNO.out, rfl⟩, hBE⟩
    · skip
      go_simp
      refine hK.out _ _ ?_ (fun hHeld => ?_)
      · (try dsimp only); exact ⟨hA0, hA1, hA2, hA3⟩
      clear hK K
      try simp only [put_laws]
      refine wpAnyH_ready (rs := [7]) (by kernel_rfl) (by simp) ?_
      refine AllReadyH.cons (by simp only [List.getElem?_toArray, List.getElem?_cons_succ, List.getElem?_cons_zero]; rfl) (fun K hK => ?_) AllReadyH.nil
      go_simp
      refine (r1 _ hT1).mono ?_; rintro e wx ⟨rfl, rfl⟩
      refine hK.out _ _ ?_ (fun hHeld => ?_)
      · (try dsimp only); exact ⟨hA0, hA1, hA2, hA3⟩
      clear hK K
      try simp only [put_laws]
      refine wpAnyH_ready (rs := [11]) (by kernel_rfl) (by simp) ?_
      refine AllReadyH.cons (by simp only [List.getElem?_toArray, List.getElem?_cons_succ, List.getElem?_cons_zero]; rfl) (fun K hK => ?_) AllReadyH.nil
      go_simp
      refine (r2 _ hP1).mono ?_; rintro e wx ⟨rfl, rfl⟩
      refine hK.out _ _ ?_ (fun hHeld => ?_)
      · (try dsimp only); exact ⟨hA0, hA1, hA2, hA3⟩
      clear hK K
      try simp only [put_laws]
      refine wpAnyH_ready (rs := [15]) (by kernel_rfl) (by simp) ?_
      refine AllReadyH.cons (by simp only [List.getElem?_toArray, List.getElem?_cons_succ, List.getElem?_cons_zero]; rfl) (fun K hK => ?_) AllReadyH.nil
      go_simp
      refine (r3 _ hU1).mono ?_; rintro e wx ⟨rfl, rfl⟩
      refine hK.out _ _ ?_ (fun hHeld => ?_)
      · (try dsimp only); exact ⟨hA0, hA1, hA2, hA3⟩
      clear hK K
      try simp only [put_laws]
      refine wpAnyH_take (i := 16) (v := ?vz16_16) (by simp only [List.getElem?_toArray, List.getElem?_cons_succ, List.getElem?_cons_zero]; rfl) (by kernel_rfl) (by kernel_rfl) (by kernel_rfl) (by exact fun _ _ _ h => h) (Or.inl ⟨by rfl, ?hz16_16⟩) hHeld ?rz16_16
      case hz16_16 => (intro w hSw; (try dsimp only at hSw); go_simp; (try with_reducible rfl))
      try simp only [put_laws]
      refine wpAnyH_ready (rs := [18]) (by kernel_rfl) (by simp) ?_
      refine AllReadyH.cons (by simp only [List.getElem?_toArray, List.getElem?_cons_succ, List.getElem?_cons_zero]; rfl) (fun K hK => ?_) AllReadyH.nil
      go_simp
      refine hK.out _ _ ?_ (fun hHeld => ?_)
      · (try dsimp only); exact ⟨hZ0, hZ1, hZ2, hZ3⟩
      clear hK K
      try simp only [put_laws]
      refine wpAnyH_done (by kernel_rfl) ?_ _
      clear hHeld hA0 hA1 hA2 hA3 hZ0 hZ1 hZ2 hZ3
      have hX4 := hX3
      have hBx := hB4
      have p0' := p0
      have p1' := p1
      have p2' := p2
      have p3' := p3
      generalize (w2.alloc (.cells #[.int .i64 a, .int .i64 b, .int .i64 cc, .int .i64 dd] 23)).drew = w4 at *
      have x0 := hX4.cell 0
      have x1 := hX4.cell 1
      have x2 := hX4.cell 2
      have x3 := hX4.cell 3
      simp only [List.getElem?_cons_zero, List.getElem?_cons_succ] at x0 x1 x2 x3
      go_wp2_with fail
      refine (specCarText_any a b cc dd _).mono ?_; rintro e w5 ⟨rfl, hb5⟩
      have hX5 := hX4.below hb5
      have hW5 := hW4.below hb5
      have hB5 := below_next hBx hb5
      have HW5 := Lib.hid hW5
      have HB5 := Lib.hid hB5
      have y0 := hX5.cell 0
      have y1 := hX5.cell 1
      have y2 := hX5.cell 2
      have y3 := hX5.cell 3
      have v0 := hW5.cell 0
      have v1 := hW5.cell 1
      have v2 := hW5.cell 2
      have v3 := hW5.cell 3
      have m0 := hW5.free 0
      have m1 := hW5.free 1
      have m2 := hW5.free 2
      have m3 := hW5.free 3
      simp only [List.getElem?_cons_zero, List.getElem?_cons_succ] at y0 y1 y2 y3 v0 v1 v2 v3
      clear x0 x1 x2 x3 hX4 hBx hW4 hX5 hW5 hB5 hb5
      by_cases he : carT a b cc dd = s
      · have HV := Lib.hid (carT_ok hsne he)
        have HE := Lib.hid he
        rw [he]
        clear he
        go_wp2
        have hE := (((HW5.out.set_ 0 (.int .i64 a)).set_ 1 (.int .i64 b)).set_ 2 (.int .i64 cc)).set_ 3 (.int .i64 dd)
        have hBE := (((HB5.out.setCell (p := ⟨Q, 0, none⟩) (by rw [hQ.out]; exact Nat.le_refl _) (.int .i64 a)).setCell (p := ⟨Q, 1, none⟩) (by rw [hQ.out]; exact Nat.le_refl _) (.int .i64 b)).setCell (p := ⟨Q, 2, none⟩) (by rw [hQ.out]; exact Nat.le_refl _) (.int .i64 cc)).setCell (p := ⟨Q, 3, none⟩) (by rw [hQ.out]; exact Nat.le_refl _) (.int .i64 dd)
        generalize (((w5.setCell ⟨Q, 0, none⟩ (.int .i64 a)).setCell ⟨Q, 1, none⟩ (.int .i64 b)).setCell ⟨Q, 2, none⟩ (.int .i64 cc)).setCell ⟨Q, 3, none⟩ (.int .i64 dd) = wz at *
        have e0 : wz.cell? ⟨Q, 0, none⟩ = some (.int .i64 a) := hE.cell 0
        have e1 : wz.cell? ⟨Q, 1, none⟩ = some (.int .i64 b) := hE.cell 1
        have e2 : wz.cell? ⟨Q, 2, none⟩ = some (.int .i64 cc) := hE.cell 2
        have e3 : wz.cell? ⟨Q, 3, none⟩ = some (.int .i64 dd) := hE.cell 3
        exact bodyPost_ret (v := .tuple #[.agg #[.int .i64 a, .int .i64 b, .int .i64 cc, .int .i64 dd], .bool true]) (by simp [results, Tryd.results6, go_sem, e0, e1, e2, e3]) rfl ⟨.inl ⟨a, b, cc, dd, HV.out, HE.out, rfl⟩, hBE⟩
      · have HNO := Lib.hid (carT_no (s := s) fun F' R' T' P' U' h1 h2 h3 => he (by rw [HC2.out] at h1; injection h1 with f1 h1; injection h1 with h1 _; subst f1; subst h1; rw [HC3.out] at h2; injection h2 with f2 h2; injection h2 with f3 h2; injection h2 with f4 _; subst f2; subst f3; subst f4; rw [ha.out, hb.out, hcc.out, hdd.out]; exact h3))
        obtain ⟨X, hX⟩ : ∃ x, Hid (x = carT a b cc dd) := ⟨_, rfl⟩
        rw [← hX.out] at he ⊢
        have hneb : (X == s) = false := by simpa using he
        clear he
        go_wp2
        have hE := (((HW5.out.set_ 0 (.int .i64 0)).set_ 1 (.int .i64 0)).set_ 2 (.int .i64 0)).set_ 3 (.int .i64 0)
        have hBE := (((HB5.out.setCell (p := ⟨Q, 0, none⟩) (by rw [hQ.out]; exact Nat.le_refl _) (.int .i64 0)).setCell (p := ⟨Q, 1, none⟩) (by rw [hQ.out]; exact Nat.le_refl _) (.int .i64 0)).setCell (p := ⟨Q, 2, none⟩) (by rw [hQ.out]; exact Nat.le_refl _) (.int .i64 0)).setCell (p := ⟨Q, 3, none⟩) (by rw [hQ.out]; exact Nat.le_refl _) (.int .i64 0)
        generalize (((w5.setCell ⟨Q, 0, none⟩ (.int .i64 0)).setCell ⟨Q, 1, none⟩ (.int .i64 0)).setCell ⟨Q, 2, none⟩ (.int .i64 0)).setCell ⟨Q, 3, none⟩ (.int .i64 0) = wz at *
        have e0 : wz.cell? ⟨Q, 0, none⟩ = some (.int .i64 0) := hE.cell 0
        have e1 : wz.cell? ⟨Q, 1, none⟩ = some (.int .i64 0) := hE.cell 1
        have e2 : wz.cell? ⟨Q, 2, none⟩ = some (.int .i64 0) := hE.cell 2
        have e3 : wz.cell? ⟨Q, 3, none⟩ = some (.int .i64 0) := hE.cell 3
        exact bodyPost_ret (v := .tuple #[.agg #[.int .i64 0, .int .i64 0, .int .i64 0, .int .i64 0], .bool false]) (by simp [results, Tryd.results6, go_sem, e0, e1, e2, e3]) rfl ⟨.inr ⟨HNO.out, rfl⟩, hBE⟩
  · skip
    go_simp
    refine hK.out _ _ ?_ (fun hHeld => ?_)
    · (try dsimp only); exact ⟨hA0, hA1, hA2, hA3⟩
    clear hK K
    try simp only [put_laws]
    refine wpAnyH_ready (rs := [3]) (by kernel_rfl) (by simp) ?_
    refine AllReadyH.cons (by simp only [List.getElem?_toArray, List.getElem?_cons_succ, List.getElem?_cons_zero]; rfl) (fun K hK => ?_) AllReadyH.nil
    go_simp
    refine (r0 _ hF1).mono ?_; rintro e wx ⟨rfl, rfl⟩
    refine hK.out _ _ ?_ (fun hHeld => ?_)
    · (try dsimp only); exact ⟨hA0, hA1, hA2, hA3⟩
    clear hK K
    try simp only [put_laws]
    refine wpAnyH_ready (rs := [7]) (by kernel_rfl) (by simp) ?_
    refine AllReadyH.cons (by simp only [List.getElem?_toArray, List.getElem?_cons_succ, List.getElem?_cons_zero]; rfl) (fun K hK => ?_) AllReadyH.nil
    go_simp
    refine (r1 _ hT1).mono ?_; rintro e wx ⟨rfl, rfl⟩
    refine hK.out _ _ ?_ (fun hHeld => ?_)
    · (try dsimp only); exact ⟨hA0, hA1, hA2, hA3⟩
    clear hK K
    try simp only [put_laws]
    refine wpAnyH_ready (rs := [11]) (by kernel_rfl) (by simp) ?_
    refine AllReadyH.cons (by simp only [List.getElem?_toArray, List.getElem?_cons_succ, List.getElem?_cons_zero]; rfl) (fun K hK => ?_) AllReadyH.nil
    go_simp
    refine (r2 _ hP1).mono ?_; rintro e wx ⟨rfl, rfl⟩
    refine hK.out _ _ ?_ (fun hHeld => ?_)
    · (try dsimp only); exact ⟨hA0, hA1, hA2, hA3⟩
    clear hK K
    try simp only [put_laws]
    refine wpAnyH_ready (rs := [15]) (by kernel_rfl) (by simp) ?_
    refine AllReadyH.cons (by simp only [List.getElem?_toArray, List.getElem?_cons_succ, List.getElem?_cons_zero]; rfl) (fun K hK => ?_) AllReadyH.nil
    go_simp
    refine (r3 _ hU1).mono ?_; rintro e wx ⟨rfl, rfl⟩
    refine hK.out _ _ ?_ (fun hHeld => ?_)
    · (try dsimp only); exact ⟨hA0, hA1, hA2, hA3⟩
    clear hK K
    try simp only [put_laws]
    refine wpAnyH_take (i := 16) (v := ?vz17_16) (by simp only [List.getElem?_toArray, List.getElem?_cons_succ, List.getElem?_cons_zero]; rfl) (by kernel_rfl) (by kernel_rfl) (by kernel_rfl) (by exact fun _ _ _ h => h) (Or.inl ⟨by rfl, ?hz17_16⟩) hHeld ?rz17_16
    case hz17_16 => (intro w hSw; (try dsimp only at hSw); go_simp; (try with_reducible rfl))
    try simp only [put_laws]
    refine wpAnyH_ready (rs := [18]) (by kernel_rfl) (by simp) ?_
    refine AllReadyH.cons (by simp only [List.getElem?_toArray, List.getElem?_cons_succ, List.getElem?_cons_zero]; rfl) (fun K hK => ?_) AllReadyH.nil
    go_simp
    refine hK.out _ _ ?_ (fun hHeld => ?_)
    · (try dsimp only); exact ⟨hZ0, hZ1, hZ2, hZ3⟩
    clear hK K
    try simp only [put_laws]
    refine wpAnyH_done (by kernel_rfl) ?_ _
    clear hHeld hA0 hA1 hA2 hA3 hZ0 hZ1 hZ2 hZ3
    have hX4 := hX3
    have hBx := hB4
    have p0' := p0
    have p1' := p1
    have p2' := p2
    have p3' := p3
    generalize (w2.alloc (.cells #[.int .i64 a, .int .i64 b, .int .i64 cc, .int .i64 dd] 23)).drew = w4 at *
    have x0 := hX4.cell 0
    have x1 := hX4.cell 1
    have x2 := hX4.cell 2
    have x3 := hX4.cell 3
    simp only [List.getElem?_cons_zero, List.getElem?_cons_succ] at x0 x1 x2 x3
    go_wp2_with fail
    refine (specCarText_any a b cc dd _).mono ?_; rintro e w5 ⟨rfl, hb5⟩
    have hX5 := hX4.below hb5
    have hW5 := hW4.below hb5
    have hB5 := below_next hBx hb5
    have HW5 := Lib.hid hW5
    have HB5 := Lib.hid hB5
    have y0 := hX5.cell 0
    have y1 := hX5.cell 1
    have y2 := hX5.cell 2
    have y3 := hX5.cell 3
    have v0 := hW5.cell 0
    have v1 := hW5.cell 1
    have v2 := hW5.cell 2
    have v3 := hW5.cell 3
    have m0 := hW5.free 0
    have m1 := hW5.free 1
    have m2 := hW5.free 2
    have m3 := hW5.free 3
    simp only [List.getElem?_cons_zero, List.getElem?_cons_succ] at y0 y1 y2 y3 v0 v1 v2 v3
    clear x0 x1 x2 x3 hX4 hBx hW4 hX5 hW5 hB5 hb5
    by_cases he : carT a b cc dd = s
    · have HV := Lib.hid (carT_ok hsne he)
      have HE := Lib.hid he
      rw [he]
      clear he
      go_wp2
      have hE := (((HW5.out.set_ 0 (.int .i64 a)).set_ 1 (.int .i64 b)).set_ 2 (.int .i64 cc)).set_ 3 (.int .i64 dd)
      have hBE := (((HB5.out.setCell (p := ⟨Q, 0, none⟩) (by rw [hQ.out]; exact Nat.le_refl _) (.int .i64 a)).setCell (p := ⟨Q, 1, none⟩) (by rw [hQ.out]; exact Nat.le_refl _) (.int .i64 b)).setCell (p := ⟨Q, 2, none⟩) (by rw [hQ.out]; exact Nat.le_refl _) (.int .i64 cc)).setCell (p := ⟨Q, 3, none⟩) (by rw [hQ.out]; exact Nat.le_refl _) (.int .i64 dd)
      generalize (((w5.setCell ⟨Q, 0, none⟩ (.int .i64 a)).setCell ⟨Q, 1, none⟩ (.int .i64 b)).setCell ⟨Q, 2, none⟩ (.int .i64 cc)).setCell ⟨Q, 3, none⟩ (.int .i64 dd) = wz at *
      have e0 : wz.cell? ⟨Q, 0, none⟩ = some (.int .i64 a) := hE.cell 0
      have e1 : wz.cell? ⟨Q, 1, none⟩ = some (.int .i64 b) := hE.cell 1
      have e2 : wz.cell? ⟨Q, 2, none⟩ = some (.int .i64 cc) := hE.cell 2
      have e3 : wz.cell? ⟨Q, 3, none⟩ = some (.int .i64 dd) := hE.cell 3
      exact bodyPost_ret (v := .tuple #[.agg #[.int .i64 a, .int .i64 b, .int .i64 cc, .int .i64 dd], .bool true]) (by simp [results, Tryd.results6, go_sem, e0, e1, e2, e3]) rfl ⟨.inl ⟨a, b, cc, dd, HV.out, HE.out, rfl⟩, hBE⟩
    · have HNO := Lib.hid (carT_no (s := s) fun F' R' T' P' U' h1 h2 h3 => he (by rw [HC2.out] at h1; injection h1 with f1 h1; injection h1 with h1 _; subst f1; subst h1; rw [HC3.out] at h2; injection h2 with f2 h2; injection h2 with f3 h2; injection h2 with f4 _; subst f2; subst f3; subst f4; rw [ha.out, hb.out, hcc.out, hdd.out]; exact h3))
      obtain ⟨X, hX⟩ : ∃ x, Hid (x = carT a b cc dd) := ⟨_, rfl⟩
      rw [← hX.out] at he ⊢
      have hneb : (X == s) = false := by simpa using he
      clear he
      go_wp2
      have hE := (((HW5.out.set_ 0 (.int .i64 0)).set_ 1 (.int .i64 0)).set_ 2 (.int .i64 0)).set_ 3 (.int .i64 0)
      have hBE := (((HB5.out.setCell (p := ⟨Q, 0, none⟩) (by rw [hQ.out]; exact Nat.le_refl _) (.int .i64 0)).setCell (p := ⟨Q, 1, none⟩) (by rw [hQ.out]; exact Nat.le_refl _) (.int .i64 0)).setCell (p := ⟨Q, 2, none⟩) (by rw [hQ.out]; exact Nat.le_refl _) (.int .i64 0)).setCell (p := ⟨Q, 3, none⟩) (by rw [hQ.out]; exact Nat.le_refl _) (.int .i64 0)
      generalize (((w5.setCell ⟨Q, 0, none⟩ (.int .i64 0)).setCell ⟨Q, 1, none⟩ (.int .i64 0)).setCell ⟨Q, 2, none⟩ (.int .i64 0)).setCell ⟨Q, 3, none⟩ (.int .i64 0) = wz at *
      have e0 : wz.cell? ⟨Q, 0, none⟩ = some (.int .i64 0) := hE.cell 0
      have e1 : wz.cell? ⟨Q, 1, none⟩ = some (.int .i64 0) := hE.cell 1
      have e2 : wz.cell? ⟨Q, 2, none⟩ = some (.int .i64 0) := hE.cell 2
      have e3 : wz.cell? ⟨Q, 3, none⟩ = some (.int .i64 0) := hE.cell 3
      exact bodyPost_ret (v := .tuple #[.agg #[.int .i64 0, .int .i64 0, .int .i64 0, .int .i64 0], .bool false]) (by simp [results, Tryd.results6, go_sem, e0, e1, e2, e3]) rfl ⟨.inr ⟨HNO.out, rfl⟩, hBE⟩
end Go.Proofs.YtecjhomfoakaeaaDoor
