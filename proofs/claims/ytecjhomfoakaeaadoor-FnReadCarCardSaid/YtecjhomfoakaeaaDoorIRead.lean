/-
  ReadCar of the program under proof.
-/
import Derived.Test.YtecjhomfoakaeaaDoorCutP
import Derived.Test.YtecjhomfoakaeaaDoorShelf
import Derived.Deep.RegionWith
import Derived.BigRegion
namespace Go.Proofs.YtecjhomfoakaeaaDoor
open Go.ChangeShapes Go.WideShapes Go.ChangeAt Go.RowKit

set_option maxRecDepth 100000 in
set_option maxHeartbeats 4000000 in
theorem implReadCar_any (s : List UInt8) (w : World) (hl : s.length ≤ 1048576) (m : Int) (hm : w.cell? ⟨0, 0, none⟩ = some (.int .i64 m)) (h0 : 0 < w.heap.size) : Calls Tryd.prog 7 #[.string ⟨s.toArray⟩] w (ReadRes s w) := by
  have hW := Whole.new w 23 [.int .i64 0, .int .i64 0, .int .i64 0, .int .i64 0]
  have hB1 : Below w.heap.size w (w.alloc (.cells #[.int .i64 0, .int .i64 0, .int .i64 0, .int .i64 0] 23)) := (Below.refl _ _).alloc (Nat.le_refl _) _
  have hm1 : (w.alloc (.cells #[.int .i64 0, .int .i64 0, .int .i64 0, .int .i64 0] 23)).cell? ⟨0, 0, none⟩ = some (.int .i64 m) := (World.cell?_alloc_lt _ _ _ h0).trans hm
  go_enter Tryd.func7, Tryd.ntmps7
  go_wp2_with fail
  refine (Tryd.strings_Cut ⟨s.toArray⟩ ⟨#[58]⟩ m _ (by simp [ByteArray.size]; omega) hm1).mono ?_; rintro e w1 ⟨rfl, n1, rfl⟩
  dsimp only
  have hW1 := hW.below (below_drewN (Below.refl _ _) n1)
  have hB2 := below_drewN hB1 n1
  have hm2 : ((w.alloc (.cells #[.int .i64 0, .int .i64 0, .int .i64 0, .int .i64 0] 23)).drewN n1).cell? ⟨0, 0, none⟩ = some (.int .i64 m) := hm1
  generalize (w.alloc (.cells #[.int .i64 0, .int .i64 0, .int .i64 0, .int .i64 0] 23)).drewN n1 = w1 at *
  obtain ⟨Q, hQ⟩ : ∃ x, Hid (x = w.heap.size) := ⟨_, rfl⟩
  rw [← hQ.out] at hW1 ⊢
  rcases cut_one s 58 with ⟨hc, hcs⟩ | ⟨F, R, hc, hcs, hF1, hR1⟩
  · rw [hc]
    go_wp2_with fail
    refine (Tryd.strings_Split ⟨([] : List UInt8).toArray⟩ ⟨#[120]⟩ m _ (by simp [ByteArray.size]) hm2 (Nat.le_refl 1)).mono ?_; rintro e w2 ⟨rfl, rfl⟩
    have HNO := Lib.hid (carT_miss hcs)
    generalize Obj.cells (List.map Value.string (Lib.splitB ⟨#[120]⟩ 0 (Lib.countB ⟨([] : List UInt8).toArray⟩ ⟨#[120]⟩) ⟨([] : List UInt8).toArray⟩)).toArray _ = ob
    have hb2 : Below w1.heap.size w1 (w1.alloc ob) := (Below.refl _ _).alloc (Nat.le_refl _) _
    have hW2 := hW1.below hb2
    have hB3 := below_next hB2 hb2
    generalize hw2 : w1.alloc ob = w2 at *
    have k0 := hW2.free 0
    have k1 := hW2.free 1
    have k2 := hW2.free 2
    have k3 := hW2.free 3
    have p0 := hW2.cell 0
    have p1 := hW2.cell 1
    have p2 := hW2.cell 2
    have p3 := hW2.cell 3
    simp only [List.getElem?_cons_zero, List.getElem?_cons_succ] at p0 p1 p2 p3
    go_wp2
    have hE := (((hW2.set_ 0 (.int .i64 0)).set_ 1 (.int .i64 0)).set_ 2 (.int .i64 0)).set_ 3 (.int .i64 0)
    have hBE := (((hB3.setCell (p := ⟨Q, 0, none⟩) (by rw [hQ.out]; exact Nat.le_refl _) (.int .i64 0)).setCell (p := ⟨Q, 1, none⟩) (by rw [hQ.out]; exact Nat.le_refl _) (.int .i64 0)).setCell (p := ⟨Q, 2, none⟩) (by rw [hQ.out]; exact Nat.le_refl _) (.int .i64 0)).setCell (p := ⟨Q, 3, none⟩) (by rw [hQ.out]; exact Nat.le_refl _) (.int .i64 0)
    generalize (((w2.setCell ⟨Q, 0, none⟩ (.int .i64 0)).setCell ⟨Q, 1, none⟩ (.int .i64 0)).setCell ⟨Q, 2, none⟩ (.int .i64 0)).setCell ⟨Q, 3, none⟩ (.int .i64 0) = wz at *
    have e0 : wz.cell? ⟨Q, 0, none⟩ = some (.int .i64 0) := hE.cell 0
    have e1 : wz.cell? ⟨Q, 1, none⟩ = some (.int .i64 0) := hE.cell 1
    have e2 : wz.cell? ⟨Q, 2, none⟩ = some (.int .i64 0) := hE.cell 2
    have e3 : wz.cell? ⟨Q, 3, none⟩ = some (.int .i64 0) := hE.cell 3
    exact bodyPost_ret (v := .tuple #[.agg #[.int .i64 0, .int .i64 0, .int .i64 0, .int .i64 0], .bool false]) (by simp [results, Tryd.results7, go_sem, e0, e1, e2, e3]) rfl ⟨.inr ⟨HNO.out, rfl⟩, hBE⟩
  · rw [hc]
    go_wp2_with fail
    refine (Tryd.strings_Split ⟨R.toArray⟩ ⟨#[120]⟩ m _ (by simp [ByteArray.size]; omega) hm2 (Nat.le_refl 1)).mono ?_; rintro e w2 ⟨rfl, rfl⟩
    obtain ⟨hn, hv⟩ := split_one R 120
    rw [hv, hn]
    clear hv hn
    by_cases hn3 : (cutL 120 R).length = 3
    case neg =>
      have hd : (((cutL 120 R).length : Int) != 3) = true := by simp; omega
      have HNO : Hid (∀ f t r u : Int, carB f t r u = true → carT f t r u ≠ s) := Lib.hid fun f t r u hv he => hn3 (by obtain ⟨T, P, U, h1, -⟩ := carT_parts hcs hv he; rw [h1]; rfl)
      generalize (cutL 120 R).length = n2 at *
      generalize Obj.cells (List.map tx (cutL 120 R)).toArray _ = ob
      clear hn3
      have hb2 : Below w1.heap.size w1 (w1.alloc ob) := (Below.refl _ _).alloc (Nat.le_refl _) _
      have hW2 := hW1.below hb2
      have hB3 := below_next hB2 hb2
      generalize hw2 : w1.alloc ob = w2 at *
      have k0 := hW2.free 0
      have k1 := hW2.free 1
      have k2 := hW2.free 2
      have k3 := hW2.free 3
      have p0 := hW2.cell 0
      have p1 := hW2.cell 1
      have p2 := hW2.cell 2
      have p3 := hW2.cell 3
      simp only [List.getElem?_cons_zero, List.getElem?_cons_succ] at p0 p1 p2 p3
      go_wp2
      have hE := (((hW2.set_ 0 (.int .i64 0)).set_ 1 (.int .i64 0)).set_ 2 (.int .i64 0)).set_ 3 (.int .i64 0)
      have hBE := (((hB3.setCell (p := ⟨Q, 0, none⟩) (by rw [hQ.out]; exact Nat.le_refl _) (.int .i64 0)).setCell (p := ⟨Q, 1, none⟩) (by rw [hQ.out]; exact Nat.le_refl _) (.int .i64 0)).setCell (p := ⟨Q, 2, none⟩) (by rw [hQ.out]; exact Nat.le_refl _) (.int .i64 0)).setCell (p := ⟨Q, 3, none⟩) (by rw [hQ.out]; exact Nat.le_refl _) (.int .i64 0)
      generalize (((w2.setCell ⟨Q, 0, none⟩ (.int .i64 0)).setCell ⟨Q, 1, none⟩ (.int .i64 0)).setCell ⟨Q, 2, none⟩ (.int .i64 0)).setCell ⟨Q, 3, none⟩ (.int .i64 0) = wz at *
      have e0 : wz.cell? ⟨Q, 0, none⟩ = some (.int .i64 0) := hE.cell 0
      have e1 : wz.cell? ⟨Q, 1, none⟩ = some (.int .i64 0) := hE.cell 1
      have e2 : wz.cell? ⟨Q, 2, none⟩ = some (.int .i64 0) := hE.cell 2
      have e3 : wz.cell? ⟨Q, 3, none⟩ = some (.int .i64 0) := hE.cell 3
      exact bodyPost_ret (v := .tuple #[.agg #[.int .i64 0, .int .i64 0, .int .i64 0, .int .i64 0], .bool false]) (by simp [results, Tryd.results7, go_sem, e0, e1, e2, e3]) rfl ⟨.inr ⟨HNO.out, rfl⟩, hBE⟩
    obtain ⟨T, P, U, hc3⟩ := len_three hn3
    rw [hc3]
    have hT1 : T.length ≤ 1048576 := by have := cut_len (sep := 120) (s := R) (p := T) (by rw [hc3]; simp); omega
    have hP1 : P.length ≤ 1048576 := by have := cut_len (sep := 120) (s := R) (p := P) (by rw [hc3]; simp); omega
    have hU1 : U.length ≤ 1048576 := by have := cut_len (sep := 120) (s := R) (p := U) (by rw [hc3]; simp); omega
    have HC3 := Lib.hid hc3
    clear hc3 hn3
    simp only [List.map_cons, List.map_nil, List.length_cons, List.length_nil, Nat.zero_add, Nat.reduceAdd]
    have hb2 : Below w1.heap.size w1 (w1.alloc (.cells [tx T, tx P, tx U].toArray 9)) := (Below.refl _ _).alloc (Nat.le_refl _) _
    have hW2 := hW1.below hb2
    have hB3 := below_next hB2 hb2
    generalize hw2 : w1.alloc (.cells [tx T, tx P, tx U].toArray 9) = w2 at *
    have k0 := hW2.free 0
    have k1 := hW2.free 1
    have k2 := hW2.free 2
    have k3 := hW2.free 3
    have p0 := hW2.cell 0
    have p1 := hW2.cell 1
    have p2 := hW2.cell 2
    have p3 := hW2.cell 3
    simp only [List.getElem?_cons_zero, List.getElem?_cons_succ] at p0 p1 p2 p3
    have hg : w2.heap.size = w1.heap.size + 1 := by rw [← hw2]; simp
    have t0 : w2.cell? ⟨w1.heap.size, 0, none⟩ = some (.string ⟨T.toArray⟩) := by rw [← hw2]; exact new_cells w1 _ [tx T, tx P, tx U] 0 (tx T) rfl
    have t1 : w2.cell? ⟨w1.heap.size, 1, none⟩ = some (.string ⟨P.toArray⟩) := by rw [← hw2]; exact new_cells w1 _ [tx T, tx P, tx U] 1 (tx P) rfl
    have t2 : w2.cell? ⟨w1.heap.size, 2, none⟩ = some (.string ⟨U.toArray⟩) := by rw [← hw2]; exact new_cells w1 _ [tx T, tx P, tx U] 2 (tx U) rfl
    clear hw2
    obtain ⟨g, hgd⟩ : ∃ x, Hid (x = w1.heap.size) := ⟨_, rfl⟩
    rw [← hgd.out] at hg t0 t1 t2 ⊢
    go_wp2_with fail
    have hA := Whole.new w2 41 [.int .i64 0, .int .i64 0, .int .i64 0, .int .i64 0]
    have hb3 : Below w2.heap.size w2 (w2.alloc (.cells #[.int .i64 0, .int .i64 0, .int .i64 0, .int .i64 0] 41)) := (Below.refl _ _).alloc (Nat.le_refl _) _
    have hW3 := hW2.below hb3
    have hB4 := below_next hB3 hb3
    have hgl : g < w2.heap.size := by omega
    have s0 := (World.cell?_alloc_lt w2 (.cells #[.int .i64 0, .int .i64 0, .int .i64 0, .int .i64 0] 41) ⟨g, 0, none⟩ hgl).trans t0
    have s1 := (World.cell?_alloc_lt w2 (.cells #[.int .i64 0, .int .i64 0, .int .i64 0, .int .i64 0] 41) ⟨g, 1, none⟩ hgl).trans t1
    have s2 := (World.cell?_alloc_lt w2 (.cells #[.int .i64 0, .int .i64 0, .int .i64 0, .int .i64 0] 41) ⟨g, 2, none⟩ hgl).trans t2
    have hsz : (w2.alloc (.cells #[.int .i64 0, .int .i64 0, .int .i64 0, .int .i64 0] 41)).heap.size = g + 2 := by simp; omega
    rw [hg] at hA
    clear t0 t1 t2 k0 k1 k2 k3 p0 p1 p2 p3
    generalize w2.alloc (.cells #[.int .i64 0, .int .i64 0, .int .i64 0, .int .i64 0] 41) = w3 at *
    go_region
    have hL4 : Whole (w3.alloc (.cells #[.string ⟨F.toArray⟩, .string ⟨T.toArray⟩, .string ⟨P.toArray⟩, .string ⟨U.toArray⟩] 9)).drew (g + 2) 9 [tx F, tx T, tx P, tx U] := by rw [← hsz]; exact Whole.new w3 _ [tx F, tx T, tx P, tx U]
    have hb4 : Below w3.heap.size w3 (w3.alloc (.cells #[.string ⟨F.toArray⟩, .string ⟨T.toArray⟩, .string ⟨P.toArray⟩, .string ⟨U.toArray⟩] 9)).drew := ((Below.refl _ _).alloc (Nat.le_refl _) _).drew
    have hA4 := hA.below hb4
    have hW4 := hW3.below hb4
    have hB5 := below_next hB4 hb4
    have hQg : Q < g := by rw [hgd.out]; exact hW1.lt
    clear hA hW3 hB4 hb4 s0 s1 s2 hW2 hB3 hW1 hB2 hsz
    generalize (w3.alloc (.cells #[.string ⟨F.toArray⟩, .string ⟨T.toArray⟩, .string ⟨P.toArray⟩, .string ⟨U.toArray⟩] 9)).drew = w4 at *
    go_wp2
    go_loopw [42] (fun i wr => ∃ k : Nat, k ≤ 4 ∧ i = .int .i64 k ∧ ∃ a b c d : Int, Whole wr (g + 1) 41 [.int .i64 a, .int .i64 b, .int .i64 c, .int .i64 d] ∧ Hid ((1 ≤ k → okN F = true ∧ a = numV F) ∧ (2 ≤ k → okN T = true ∧ b = numV T) ∧ (3 ≤ k → okN P = true ∧ c = numV P) ∧ (4 ≤ k → okN U = true ∧ d = numV U)) ∧ Whole wr (g + 2) 9 [tx F, tx T, tx P, tx U] ∧ Whole wr Q 23 [.int .i64 0, .int .i64 0, .int .i64 0, .int .i64 0] ∧ Below w.heap.size w wr) (fun i _ => 4 - (intOf i).toNat)
    case atStart => exact ⟨0, by omega, rfl, 0, 0, 0, 0, hA4, Lib.hid ⟨by omega, by omega, by omega, by omega⟩, hL4, hW4, hB5⟩
    case round =>
      obtain ⟨k, hk, rfl, a, b, c, d, hA5, HN, hL5, hW5, hB6⟩ := hrel
      by_cases h0 : k = 0
      · subst h0
        have l0 : wr.cell? ⟨g + 2, 0, none⟩ = some (.string ⟨F.toArray⟩) := hL5.cell 0
        have l1 := hL5.free 0
        have c0 := hA5.cell 0
        have c1 := hA5.free 0
        have k0 := hW5.free 0
        have k1 := hW5.free 1
        have k2 := hW5.free 2
        have k3 := hW5.free 3
        have p0 := hW5.cell 0
        have p1 := hW5.cell 1
        have p2 := hW5.cell 2
        have p3 := hW5.cell 3
        simp only [List.getElem?_cons_zero, List.getElem?_cons_succ] at c0 p0 p1 p2 p3
        go_wp2_with fail
        refine (readNumber_any F wr (by omega)).mono ?_
        rintro e wx ⟨rfl, ⟨hok, rfl⟩ | ⟨hok, rfl⟩⟩
        · have HOK := Lib.hid hok
          clear hok
          go_wp2
          go_round
          case rel =>
            exact ⟨1, by omega, rfl, numV F, b, c, d, hA5.set_ 0 _, Lib.hid ⟨fun _ => ⟨HOK.out, rfl⟩, fun h => absurd h (by omega), fun h => absurd h (by omega), fun h => absurd h (by omega)⟩, hL5.far (p := ⟨g + 1, 0, none⟩) (by show g + 2 ≠ g + 1; omega) _, hW5.far (p := ⟨g + 1, 0, none⟩) (by show Q ≠ g + 1; omega) _, hB6.setCell (p := ⟨g + 1, 0, none⟩) (by show w.heap.size ≤ g + 1; rw [← hQ.out]; omega) _⟩
          case measure => simp [intOf]
        · have HNO : Hid (∀ f t r u : Int, carB f t r u = true → carT f t r u ≠ s) := Lib.hid fun f t r u hv he => by
            obtain ⟨T', P', U', h1, a1, a2, a3, a4, -⟩ := carT_parts hcs hv he
            rw [HC3.out] at h1
            injection h1 with q1 h1; injection h1 with q2 h1; injection h1 with q3 _
            subst q1 q2 q3
            rw [hok] at a1; cases a1
          clear hok
          go_wp2
          have hE := (((hW5.set_ 0 (.int .i64 0)).set_ 1 (.int .i64 0)).set_ 2 (.int .i64 0)).set_ 3 (.int .i64 0)
          have hBE := (((hB6.setCell (p := ⟨Q, 0, none⟩) (by rw [hQ.out]; exact Nat.le_refl _) (.int .i64 0)).setCell (p := ⟨Q, 1, none⟩) (by rw [hQ.out]; exact Nat.le_refl _) (.int .i64 0)).setCell (p := ⟨Q, 2, none⟩) (by rw [hQ.out]; exact Nat.le_refl _) (.int .i64 0)).setCell (p := ⟨Q, 3, none⟩) (by rw [hQ.out]; exact Nat.le_refl _) (.int .i64 0)
          generalize (((wx.setCell ⟨Q, 0, none⟩ (.int .i64 0)).setCell ⟨Q, 1, none⟩ (.int .i64 0)).setCell ⟨Q, 2, none⟩ (.int .i64 0)).setCell ⟨Q, 3, none⟩ (.int .i64 0) = wz at *
          have e0 : wz.cell? ⟨Q, 0, none⟩ = some (.int .i64 0) := hE.cell 0
          have e1 : wz.cell? ⟨Q, 1, none⟩ = some (.int .i64 0) := hE.cell 1
          have e2 : wz.cell? ⟨Q, 2, none⟩ = some (.int .i64 0) := hE.cell 2
          have e3 : wz.cell? ⟨Q, 3, none⟩ = some (.int .i64 0) := hE.cell 3
          exact bodyPost_ret (v := .tuple #[.agg #[.int .i64 0, .int .i64 0, .int .i64 0, .int .i64 0], .bool false]) (by simp [results, Tryd.results7, go_sem, e0, e1, e2, e3]) rfl ⟨.inr ⟨HNO.out, rfl⟩, hBE⟩
      by_cases h1 : k = 1
      · subst h1
        have l0 : wr.cell? ⟨g + 2, 1, none⟩ = some (.string ⟨T.toArray⟩) := hL5.cell 1
        have l1 := hL5.free 1
        have c0 := hA5.cell 1
        have c1 := hA5.free 1
        have k0 := hW5.free 0
        have k1 := hW5.free 1
        have k2 := hW5.free 2
        have k3 := hW5.free 3
        have p0 := hW5.cell 0
        have p1 := hW5.cell 1
        have p2 := hW5.cell 2
        have p3 := hW5.cell 3
        simp only [List.getElem?_cons_zero, List.getElem?_cons_succ] at c0 p0 p1 p2 p3
        go_wp2_with fail
        refine (readNumber_any T wr (by omega)).mono ?_
        rintro e wx ⟨rfl, ⟨hok, rfl⟩ | ⟨hok, rfl⟩⟩
        · have HOK := Lib.hid hok
          clear hok
          go_wp2
          go_round
          case rel =>
            exact ⟨2, by omega, rfl, a, numV T, c, d, hA5.set_ 1 _, Lib.hid ⟨fun _ => HN.out.1 (by omega), fun _ => ⟨HOK.out, rfl⟩, fun h => absurd h (by omega), fun h => absurd h (by omega)⟩, hL5.far (p := ⟨g + 1, 1, none⟩) (by show g + 2 ≠ g + 1; omega) _, hW5.far (p := ⟨g + 1, 1, none⟩) (by show Q ≠ g + 1; omega) _, hB6.setCell (p := ⟨g + 1, 1, none⟩) (by show w.heap.size ≤ g + 1; rw [← hQ.out]; omega) _⟩
          case measure => simp [intOf]
        · have HNO : Hid (∀ f t r u : Int, carB f t r u = true → carT f t r u ≠ s) := Lib.hid fun f t r u hv he => by
            obtain ⟨T', P', U', h1, a1, a2, a3, a4, -⟩ := carT_parts hcs hv he
            rw [HC3.out] at h1
            injection h1 with q1 h1; injection h1 with q2 h1; injection h1 with q3 _
            subst q1 q2 q3
            rw [hok] at a2; cases a2
          clear hok
          go_wp2
          have hE := (((hW5.set_ 0 (.int .i64 0)).set_ 1 (.int .i64 0)).set_ 2 (.int .i64 0)).set_ 3 (.int .i64 0)
          have hBE := (((hB6.setCell (p := ⟨Q, 0, none⟩) (by rw [hQ.out]; exact Nat.le_refl _) (.int .i64 0)).setCell (p := ⟨Q, 1, none⟩) (by rw [hQ.out]; exact Nat.le_refl _) (.int .i64 0)).setCell (p := ⟨Q, 2, none⟩) (by rw [hQ.out]; exact Nat.le_refl _) (.int .i64 0)).setCell (p := ⟨Q, 3, none⟩) (by rw [hQ.out]; exact Nat.le_refl _) (.int .i64 0)
          generalize (((wx.setCell ⟨Q, 0, none⟩ (.int .i64 0)).setCell ⟨Q, 1, none⟩ (.int .i64 0)).setCell ⟨Q, 2, none⟩ (.int .i64 0)).setCell ⟨Q, 3, none⟩ (.int .i64 0) = wz at *
          have e0 : wz.cell? ⟨Q, 0, none⟩ = some (.int .i64 0) := hE.cell 0
          have e1 : wz.cell? ⟨Q, 1, none⟩ = some (.int .i64 0) := hE.cell 1
          have e2 : wz.cell? ⟨Q, 2, none⟩ = some (.int .i64 0) := hE.cell 2
          have e3 : wz.cell? ⟨Q, 3, none⟩ = some (.int .i64 0) := hE.cell 3
          exact bodyPost_ret (v := .tuple #[.agg #[.int .i64 0, .int .i64 0, .int .i64 0, .int .i64 0], .bool false]) (by simp [results, Tryd.results7, go_sem, e0, e1, e2, e3]) rfl ⟨.inr ⟨HNO.out, rfl⟩, hBE⟩
      by_cases h2 : k = 2
      · subst h2
        have l0 : wr.cell? ⟨g + 2, 2, none⟩ = some (.string ⟨P.toArray⟩) := hL5.cell 2
        have l1 := hL5.free 2
        have c0 := hA5.cell 2
        have c1 := hA5.free 2
        have k0 := hW5.free 0
        have k1 := hW5.free 1
        have k2 := hW5.free 2
        have k3 := hW5.free 3
        have p0 := hW5.cell 0
        have p1 := hW5.cell 1
        have p2 := hW5.cell 2
        have p3 := hW5.cell 3
        simp only [List.getElem?_cons_zero, List.getElem?_cons_succ] at c0 p0 p1 p2 p3
        go_wp2_with fail
        refine (readNumber_any P wr (by omega)).mono ?_
        rintro e wx ⟨rfl, ⟨hok, rfl⟩ | ⟨hok, rfl⟩⟩
        · have HOK := Lib.hid hok
          clear hok
          go_wp2
          go_round
          case rel =>
            exact ⟨3, by omega, rfl, a, b, numV P, d, hA5.set_ 2 _, Lib.hid ⟨fun _ => HN.out.1 (by omega), fun _ => HN.out.2.1 (by omega), fun _ => ⟨HOK.out, rfl⟩, fun h => absurd h (by omega)⟩, hL5.far (p := ⟨g + 1, 2, none⟩) (by show g + 2 ≠ g + 1; omega) _, hW5.far (p := ⟨g + 1, 2, none⟩) (by show Q ≠ g + 1; omega) _, hB6.setCell (p := ⟨g + 1, 2, none⟩) (by show w.heap.size ≤ g + 1; rw [← hQ.out]; omega) _⟩
          case measure => simp [intOf]
        · have HNO : Hid (∀ f t r u : Int, carB f t r u = true → carT f t r u ≠ s) := Lib.hid fun f t r u hv he => by
            obtain ⟨T', P', U', h1, a1, a2, a3, a4, -⟩ := carT_parts hcs hv he
            rw [HC3.out] at h1
            injection h1 with q1 h1; injection h1 with q2 h1; injection h1 with q3 _
            subst q1 q2 q3
            rw [hok] at a3; cases a3
          clear hok
          go_wp2
          have hE := (((hW5.set_ 0 (.int .i64 0)).set_ 1 (.int .i64 0)).set_ 2 (.int .i64 0)).set_ 3 (.int .i64 0)
          have hBE := (((hB6.setCell (p := ⟨Q, 0, none⟩) (by rw [hQ.out]; exact Nat.le_refl _) (.int .i64 0)).setCell (p := ⟨Q, 1, none⟩) (by rw [hQ.out]; exact Nat.le_refl _) (.int .i64 0)).setCell (p := ⟨Q, 2, none⟩) (by rw [hQ.out]; exact Nat.le_refl _) (.int .i64 0)).setCell (p := ⟨Q, 3, none⟩) (by rw [hQ.out]; exact Nat.le_refl _) (.int .i64 0)
          generalize (((wx.setCell ⟨Q, 0, none⟩ (.int .i64 0)).setCell ⟨Q, 1, none⟩ (.int .i64 0)).setCell ⟨Q, 2, none⟩ (.int .i64 0)).setCell ⟨Q, 3, none⟩ (.int .i64 0) = wz at *
          have e0 : wz.cell? ⟨Q, 0, none⟩ = some (.int .i64 0) := hE.cell 0
          have e1 : wz.cell? ⟨Q, 1, none⟩ = some (.int .i64 0) := hE.cell 1
          have e2 : wz.cell? ⟨Q, 2, none⟩ = some (.int .i64 0) := hE.cell 2
          have e3 : wz.cell? ⟨Q, 3, none⟩ = some (.int .i64 0) := hE.cell 3
          exact bodyPost_ret (v := .tuple #[.agg #[.int .i64 0, .int .i64 0, .int .i64 0, .int .i64 0], .bool false]) (by simp [results, Tryd.results7, go_sem, e0, e1, e2, e3]) rfl ⟨.inr ⟨HNO.out, rfl⟩, hBE⟩
      by_cases h3 : k = 3
      · subst h3
        have l0 : wr.cell? ⟨g + 2, 3, none⟩ = some (.string ⟨U.toArray⟩) := hL5.cell 3
        have l1 := hL5.free 3
        have c0 := hA5.cell 3
        have c1 := hA5.free 3
        have k0 := hW5.free 0
        have k1 := hW5.free 1
        have k2 := hW5.free 2
        have k3 := hW5.free 3
        have p0 := hW5.cell 0
        have p1 := hW5.cell 1
        have p2 := hW5.cell 2
        have p3 := hW5.cell 3
        simp only [List.getElem?_cons_zero, List.getElem?_cons_succ] at c0 p0 p1 p2 p3
        go_wp2_with fail
        refine (readNumber_any U wr (by omega)).mono ?_
        rintro e wx ⟨rfl, ⟨hok, rfl⟩ | ⟨hok, rfl⟩⟩
        · have HOK := Lib.hid hok
          clear hok
          go_wp2
          go_round
          case rel =>
            exact ⟨4, by omega, rfl, a, b, c, numV U, hA5.set_ 3 _, Lib.hid ⟨fun _ => HN.out.1 (by omega), fun _ => HN.out.2.1 (by omega), fun _ => HN.out.2.2.1 (by omega), fun _ => ⟨HOK.out, rfl⟩⟩, hL5.far (p := ⟨g + 1, 3, none⟩) (by show g + 2 ≠ g + 1; omega) _, hW5.far (p := ⟨g + 1, 3, none⟩) (by show Q ≠ g + 1; omega) _, hB6.setCell (p := ⟨g + 1, 3, none⟩) (by show w.heap.size ≤ g + 1; rw [← hQ.out]; omega) _⟩
          case measure => simp [intOf]
        · have HNO : Hid (∀ f t r u : Int, carB f t r u = true → carT f t r u ≠ s) := Lib.hid fun f t r u hv he => by
            obtain ⟨T', P', U', h1, a1, a2, a3, a4, -⟩ := carT_parts hcs hv he
            rw [HC3.out] at h1
            injection h1 with q1 h1; injection h1 with q2 h1; injection h1 with q3 _
            subst q1 q2 q3
            rw [hok] at a4; cases a4
          clear hok
          go_wp2
          have hE := (((hW5.set_ 0 (.int .i64 0)).set_ 1 (.int .i64 0)).set_ 2 (.int .i64 0)).set_ 3 (.int .i64 0)
          have hBE := (((hB6.setCell (p := ⟨Q, 0, none⟩) (by rw [hQ.out]; exact Nat.le_refl _) (.int .i64 0)).setCell (p := ⟨Q, 1, none⟩) (by rw [hQ.out]; exact Nat.le_refl _) (.int .i64 0)).setCell (p := ⟨Q, 2, none⟩) (by rw [hQ.out]; exact Nat.le_refl _) (.int .i64 0)).setCell (p := ⟨Q, 3, none⟩) (by rw [hQ.out]; exact Nat.le_refl _) (.int .i64 0)
          generalize (((wx.setCell ⟨Q, 0, none⟩ (.int .i64 0)).setCell ⟨Q, 1, none⟩ (.int .i64 0)).setCell ⟨Q, 2, none⟩ (.int .i64 0)).setCell ⟨Q, 3, none⟩ (.int .i64 0) = wz at *
          have e0 : wz.cell? ⟨Q, 0, none⟩ = some (.int .i64 0) := hE.cell 0
          have e1 : wz.cell? ⟨Q, 1, none⟩ = some (.int .i64 0) := hE.cell 1
          have e2 : wz.cell? ⟨Q, 2, none⟩ = some (.int .i64 0) := hE.cell 2
          have e3 : wz.cell? ⟨Q, 3, none⟩ = some (.int .i64 0) := hE.cell 3
          exact bodyPost_ret (v := .tuple #[.agg #[.int .i64 0, .int .i64 0, .int .i64 0, .int .i64 0], .bool false]) (by simp [results, Tryd.results7, go_sem, e0, e1, e2, e3]) rfl ⟨.inr ⟨HNO.out, rfl⟩, hBE⟩
      obtain rfl : k = 4 := by omega
      clear h0 h1 h2 h3
      have HV : Hid ((okN F = true ∧ okN T = true ∧ okN P = true ∧ okN U = true) ∧ a = numV F ∧ b = numV T ∧ c = numV P ∧ d = numV U) := Lib.hid ⟨⟨(HN.out.1 (by omega)).1, (HN.out.2.1 (by omega)).1, (HN.out.2.2.1 (by omega)).1, (HN.out.2.2.2 (by omega)).1⟩, (HN.out.1 (by omega)).2, (HN.out.2.1 (by omega)).2, (HN.out.2.2.1 (by omega)).2, (HN.out.2.2.2 (by omega)).2⟩
      clear HN hL5
      have c0 := hA5.cell 0
      have c1 := hA5.cell 1
      have c2 := hA5.cell 2
      have c3 := hA5.cell 3
      simp only [List.getElem?_cons_zero, List.getElem?_cons_succ] at c0 c1 c2 c3
      have HEQ : Hid (∀ f t r u : Int, carB f t r u = true → carT f t r u = s → f = a ∧ t = b ∧ r = c ∧ u = d) := Lib.hid fun f t r u hv he => by
        obtain ⟨T', P', U', h1, -, -, -, -, a1, a2, a3, a4⟩ := carT_parts hcs hv he
        rw [HC3.out] at h1
        injection h1 with q1 h1; injection h1 with q2 h1; injection h1 with q3 _
        subst q1 q2 q3
        obtain ⟨-, b1, b2, b3, b4⟩ := HV.out
        exact ⟨by rw [b1, a1], by rw [b2, a2], by rw [b3, a3], by rw [b4, a4]⟩
      have hC := Whole.new wr 23 [.int .i64 a, .int .i64 b, .int .i64 c, .int .i64 d]
      have hbC : Below wr.heap.size wr (wr.alloc (.cells #[.int .i64 a, .int .i64 b, .int .i64 c, .int .i64 d] 23)) := (Below.refl _ _).alloc (Nat.le_refl _) _
      go_wp2_with fail
      refine (carValid_any a b c d _).mono ?_; rintro e w5 ⟨rfl, hb5⟩
      have hC5 := hC.below hb5
      have hW6 := (hW5.below hbC).below hb5
      have hB7 := below_next (below_next hB6 hbC) hb5
      clear hC hW5 hB6 hbC hb5 hA5 c0 c1 c2 c3
      obtain ⟨q, HQ⟩ : ∃ x, Hid (x = wr.heap.size) := ⟨_, rfl⟩
      rw [← HQ.out] at hC5 ⊢
      cases hv : carB a b c d
      · have HNO : Hid (∀ f t r u : Int, carB f t r u = true → carT f t r u ≠ s) := Lib.hid fun f t r u h1 h2 => by
          obtain ⟨rfl, rfl, rfl, rfl⟩ := HEQ.out f t r u h1 h2
          rw [hv] at h1; cases h1
        clear hv
        have HW := Lib.hid hW6
        have HB := Lib.hid hB7
        have k0 := hW6.free 0
        have k1 := hW6.free 1
        have k2 := hW6.free 2
        have k3 := hW6.free 3
        have p0 := hW6.cell 0
        have p1 := hW6.cell 1
        have p2 := hW6.cell 2
        have p3 := hW6.cell 3
        simp only [List.getElem?_cons_zero, List.getElem?_cons_succ] at p0 p1 p2 p3
        clear hW6 hB7 hC5
        go_wp2
        have hE := ((((HW.out.set_ 0 (.int .i64 0)).set_ 1 (.int .i64 0)).set_ 2 (.int .i64 0)).set_ 3 (.int .i64 0))
        have hBE := (((HB.out.setCell (p := ⟨Q, 0, none⟩) (by rw [hQ.out]; exact Nat.le_refl _) (.int .i64 0)).setCell (p := ⟨Q, 1, none⟩) (by rw [hQ.out]; exact Nat.le_refl _) (.int .i64 0)).setCell (p := ⟨Q, 2, none⟩) (by rw [hQ.out]; exact Nat.le_refl _) (.int .i64 0)).setCell (p := ⟨Q, 3, none⟩) (by rw [hQ.out]; exact Nat.le_refl _) (.int .i64 0)
        generalize (((w5.setCell ⟨Q, 0, none⟩ (.int .i64 0)).setCell ⟨Q, 1, none⟩ (.int .i64 0)).setCell ⟨Q, 2, none⟩ (.int .i64 0)).setCell ⟨Q, 3, none⟩ (.int .i64 0) = wz at *
        have e0 : wz.cell? ⟨Q, 0, none⟩ = some (.int .i64 0) := hE.cell 0
        have e1 : wz.cell? ⟨Q, 1, none⟩ = some (.int .i64 0) := hE.cell 1
        have e2 : wz.cell? ⟨Q, 2, none⟩ = some (.int .i64 0) := hE.cell 2
        have e3 : wz.cell? ⟨Q, 3, none⟩ = some (.int .i64 0) := hE.cell 3
        exact bodyPost_ret (v := .tuple #[.agg #[.int .i64 0, .int .i64 0, .int .i64 0, .int .i64 0], .bool false]) (by simp [results, Tryd.results7, go_sem, e0, e1, e2, e3]) rfl ⟨.inr ⟨HNO.out, rfl⟩, hBE⟩
      have HCB := Lib.hid hv
      clear hv
      have k0 := hW6.free 0
      have k1 := hW6.free 1
      have k2 := hW6.free 2
      have k3 := hW6.free 3
      have p0 := hW6.cell 0
      have p1 := hW6.cell 1
      have p2 := hW6.cell 2
      have p3 := hW6.cell 3
      have m0 := hC5.cell 0
      have m1 := hC5.cell 1
      have m2 := hC5.cell 2
      have m3 := hC5.cell 3
      simp only [List.getElem?_cons_zero, List.getElem?_cons_succ] at p0 p1 p2 p3 m0 m1 m2 m3
      go_wp2_with fail
      refine (carText_any a b c d _).mono ?_; rintro e w6 ⟨rfl, hb6⟩
      have hC6 := hC5.below hb6
      have hW7 := hW6.below hb6
      have hB8 := below_next hB7 hb6
      have HW := Lib.hid hW7
      have HB := Lib.hid hB8
      clear k0 k1 k2 k3 p0 p1 p2 p3 m0 m1 m2 m3 hC5 hW6 hB7 hb6
      have k0 := hW7.free 0
      have k1 := hW7.free 1
      have k2 := hW7.free 2
      have k3 := hW7.free 3
      have p0 := hW7.cell 0
      have p1 := hW7.cell 1
      have p2 := hW7.cell 2
      have p3 := hW7.cell 3
      have m0 := hC6.cell 0
      have m1 := hC6.cell 1
      have m2 := hC6.cell 2
      have m3 := hC6.cell 3
      simp only [List.getElem?_cons_zero, List.getElem?_cons_succ] at p0 p1 p2 p3 m0 m1 m2 m3
      clear hW7 hB8 hC6
      by_cases he : carT a b c d = s
      · have HE := Lib.hid he
        rw [he]
        clear he
        go_wp2
        have hE := ((((HW.out.set_ 0 (.int .i64 a)).set_ 1 (.int .i64 b)).set_ 2 (.int .i64 c)).set_ 3 (.int .i64 d))
        have hBE := (((HB.out.setCell (p := ⟨Q, 0, none⟩) (by rw [hQ.out]; exact Nat.le_refl _) (.int .i64 a)).setCell (p := ⟨Q, 1, none⟩) (by rw [hQ.out]; exact Nat.le_refl _) (.int .i64 b)).setCell (p := ⟨Q, 2, none⟩) (by rw [hQ.out]; exact Nat.le_refl _) (.int .i64 c)).setCell (p := ⟨Q, 3, none⟩) (by rw [hQ.out]; exact Nat.le_refl _) (.int .i64 d)
        generalize (((w6.setCell ⟨Q, 0, none⟩ (.int .i64 a)).setCell ⟨Q, 1, none⟩ (.int .i64 b)).setCell ⟨Q, 2, none⟩ (.int .i64 c)).setCell ⟨Q, 3, none⟩ (.int .i64 d) = wz at *
        have e0 : wz.cell? ⟨Q, 0, none⟩ = some (.int .i64 a) := hE.cell 0
        have e1 : wz.cell? ⟨Q, 1, none⟩ = some (.int .i64 b) := hE.cell 1
        have e2 : wz.cell? ⟨Q, 2, none⟩ = some (.int .i64 c) := hE.cell 2
        have e3 : wz.cell? ⟨Q, 3, none⟩ = some (.int .i64 d) := hE.cell 3
        exact bodyPost_ret (v := .tuple #[.agg #[.int .i64 a, .int .i64 b, .int .i64 c, .int .i64 d], .bool true]) (by simp [results, Tryd.results7, go_sem, e0, e1, e2, e3]) rfl ⟨.inl ⟨a, b, c, d, HCB.out, HE.out, rfl⟩, hBE⟩
      · have HNO : Hid (∀ f t r u : Int, carB f t r u = true → carT f t r u ≠ s) := Lib.hid fun f t r u h1 h2 => by
          obtain ⟨rfl, rfl, rfl, rfl⟩ := HEQ.out f t r u h1 h2
          exact he h2
        obtain ⟨X, hX⟩ : ∃ x, Hid (x = carT a b c d) := ⟨_, rfl⟩
        rw [← hX.out] at he ⊢
        have hneb : (X == s) = false := by simpa using he
        clear he
        go_wp2
        have hE := ((((HW.out.set_ 0 (.int .i64 0)).set_ 1 (.int .i64 0)).set_ 2 (.int .i64 0)).set_ 3 (.int .i64 0))
        have hBE := (((HB.out.setCell (p := ⟨Q, 0, none⟩) (by rw [hQ.out]; exact Nat.le_refl _) (.int .i64 0)).setCell (p := ⟨Q, 1, none⟩) (by rw [hQ.out]; exact Nat.le_refl _) (.int .i64 0)).setCell (p := ⟨Q, 2, none⟩) (by rw [hQ.out]; exact Nat.le_refl _) (.int .i64 0)).setCell (p := ⟨Q, 3, none⟩) (by rw [hQ.out]; exact Nat.le_refl _) (.int .i64 0)
        generalize (((w6.setCell ⟨Q, 0, none⟩ (.int .i64 0)).setCell ⟨Q, 1, none⟩ (.int .i64 0)).setCell ⟨Q, 2, none⟩ (.int .i64 0)).setCell ⟨Q, 3, none⟩ (.int .i64 0) = wz at *
        have e0 : wz.cell? ⟨Q, 0, none⟩ = some (.int .i64 0) := hE.cell 0
        have e1 : wz.cell? ⟨Q, 1, none⟩ = some (.int .i64 0) := hE.cell 1
        have e2 : wz.cell? ⟨Q, 2, none⟩ = some (.int .i64 0) := hE.cell 2
        have e3 : wz.cell? ⟨Q, 3, none⟩ = some (.int .i64 0) := hE.cell 3
        exact bodyPost_ret (v := .tuple #[.agg #[.int .i64 0, .int .i64 0, .int .i64 0, .int .i64 0], .bool false]) (by simp [results, Tryd.results7, go_sem, e0, e1, e2, e3]) rfl ⟨.inr ⟨HNO.out, rfl⟩, hBE⟩
end Go.Proofs.YtecjhomfoakaeaaDoor
