/-
  HallValid of the program.
-/
import Derived.Test.YtdebjcempkgeaaaGreatDoorInts
import Derived.IntWalk
namespace Go.Proofs.YtdebjcempkgeaaaGreatDoor
open Go.ChangeShapes Go.WideShapes Go.ChangeAt Go.RowKit

/-- May a cell hold z, if those in prev are there? -/
def cellZ (prev : List Int) (z : Int) : Bool := decide (0 ≤ z) && decide (z ≤ 99) && !(decide (0 < z) && prev.contains z)
def cellAt (g : List Int) (k : Nat) : Bool := match g[k]? with | some z => cellZ (g.take k) z | none => false
theorem cellAt_get {g : List Int} {k : Nat} {z : Int} (h : Hid (g[k]? = some z)) : cellAt g k = cellZ (g.take k) z := by have h' := h.out; simp [cellAt, h']
def hallB (wd dp : Int) (g : List Int) : Bool := decide (2 ≤ wd) && decide (wd ≤ 4) && decide (2 ≤ dp) && decide (dp ≤ 3) && decide ((g.length : Int) = wd * dp) && (List.range g.length).all (cellAt g)
theorem hallB_size {wd dp : Int} {g : List Int} (h : ¬ (2 ≤ wd ∧ wd ≤ 4 ∧ 2 ≤ dp ∧ dp ≤ 3 ∧ (g.length : Int) = wd * dp)) : hallB wd dp g = false := by
  rw [Bool.eq_false_iff]
  intro hb
  simp only [hallB, Bool.and_eq_true, decide_eq_true_eq] at hb
  exact h ⟨hb.1.1.1.1.1, hb.1.1.1.1.2, hb.1.1.1.2, hb.1.1.2, hb.1.2⟩
theorem hallB_bad {wd dp : Int} {g : List Int} {k : Nat} (hk : k < g.length) (h : cellAt g k = false) : hallB wd dp g = false := by
  have : (List.range g.length).all (cellAt g) = false := by rw [List.all_eq_false]; exact ⟨k, List.mem_range.2 hk, by simp [h]⟩
  simp only [hallB, this, Bool.and_false]
theorem hallB_all {wd dp : Int} {g : List Int} (h : 2 ≤ wd ∧ wd ≤ 4 ∧ 2 ≤ dp ∧ dp ≤ 3 ∧ (g.length : Int) = wd * dp) (ha : ∀ i, i < g.length → cellAt g i = true) : hallB wd dp g = true := by
  have : (List.range g.length).all (cellAt g) = true := by rw [List.all_eq_true]; exact fun i hi => ha i (List.mem_range.1 hi)
  unfold hallB; rw [this]; simp [h.1, h.2.1, h.2.2.1, h.2.2.2.1, h.2.2.2.2]
theorem cellAt_next {g : List Int} {k : Nat} (h : ∀ i, i < k → cellAt g i = true) (hk : cellAt g k = true) : ∀ i, i < k + 1 → cellAt g i = true := by
  intro i hi
  by_cases he : i = k
  · subst he; exact hk
  · exact h i (by omega)
/-- Which ids are there in the first k cells? -/
def thereB (g : List Int) (k p : Nat) : Bool := decide (0 < p) && (g.take k).contains (p : Int)
def thereL (g : List Int) (k : Nat) : List Value := (List.range 100).map fun (p : Nat) => Value.bool (thereB g k p)
theorem thereL_get (g : List Int) (k : Nat) {p : Nat} (h : p < 100) : (thereL g k)[p]? = some (.bool (thereB g k p)) := by
  unfold thereL; rw [List.getElem?_map, List.getElem?_range h]; rfl
theorem thereL_next {g : List Int} {k p : Nat} {z : Int} (hz : Hid (g[k]? = some z)) (h : z = p) (hk : cellZ (g.take k) z = true) : (thereL g k).set p (.bool (decide (0 < z))) = thereL g (k + 1) := by
  apply List.ext_getElem?
  intro i
  by_cases hi : i < 100
  · rw [thereL_get g (k + 1) hi, List.getElem?_set, thereL_get g k hi]
    have hl : (thereL g k).length = 100 := by simp [thereL]
    unfold thereB
    rw [take_next hz]
    by_cases he : p = i
    · subst he; rw [if_pos rfl, if_pos (by omega)]; subst h; simp
    · rw [if_neg he]
      congr 2
      have h2 : ((g.take k) ++ [z]).contains (i : Int) = (g.take k).contains (i : Int) := by
        rw [Bool.eq_iff_iff]; simp; omega
      rw [h2]
  · rw [List.getElem?_eq_none (by simp [thereL]; omega), List.getElem?_eq_none (by simp [thereL]; omega)]
theorem thereL_zero (g : List Int) : thereL g 0 = List.replicate 100 (.bool false) := by
  apply List.ext_getElem?
  intro i
  by_cases hi : i < 100
  · rw [thereL_get g 0 hi, List.getElem?_replicate, if_pos hi]
    have : thereB g 0 i = false := by unfold thereB; rw [List.take_zero]; simp
    rw [this]
  · rw [List.getElem?_eq_none (by simp [thereL]; omega), List.getElem?_eq_none (by simp; omega)]

set_option maxRecDepth 100000 in
set_option maxHeartbeats 4000000 in
theorem hallValid_any (wd dp : Int) (A : Option Addr) (n c : Nat) (g : List Int) (w : World) (hn : n ≤ 9223372036854775807) (hg : IntsAt w A n g) :
    Calls Tryz.prog 8 #[.agg #[.int .i64 wd, .int .i64 dp, .slice A n c]] w (RV w (.bool (hallB wd dp g))) := by
  have HL := Lib.hid hg.len
  have hbox : Below w.heap.size w (w.alloc (.cells #[.int .i64 wd, .int .i64 dp, .slice A n c] 25)) := (Below.refl _ _).alloc (Nat.le_refl _) _
  by_cases hsz : 2 ≤ wd ∧ wd ≤ 4 ∧ 2 ≤ dp ∧ dp ≤ 3
  · have HR := Lib.hid hsz
    obtain ⟨h1, h2, h3, h4⟩ := hsz
    have d1 : decide (wd < 2) = false := by simp; omega
    have d2 : decide (4 < wd) = false := by simp; omega
    have d3 : decide (dp < 2) = false := by simp; omega
    have d4 : decide (3 < dp) = false := by simp; omega
    obtain ⟨q, hq⟩ : ∃ q : Int, Hid (q = wd * dp) := ⟨_, rfl⟩
    have hq1 : 4 ≤ wd * dp ∧ wd * dp ≤ 12 := by
      have a1 : wd = 2 ∨ wd = 3 ∨ wd = 4 := by omega
      have a2 : dp = 2 ∨ dp = 3 := by omega
      rcases a1 with rfl | rfl | rfl <;> rcases a2 with rfl | rfl <;> omega
    have hqw : IntKind.i64.wrap (wd * dp) = q := by rw [hq.out]; exact IntWalk.i64_in _ (by omega)
    have hq2 : 4 ≤ q ∧ q ≤ 12 := by rw [hq.out]; exact hq1
    clear hq1
    by_cases hnq : (n : Int) = q
    · have hne : ((n : Int) != q) = false := by simp [hnq]
      have HNQ := Lib.hid hnq
      have hn12 : n ≤ 12 := by omega
      clear hnq
      go_enter Tryz.func8, Tryz.ntmps8
      go_wp2
      clear d1 d2 d3 d4 hqw hne
      have hz : Tryz.zeroCells48 = (thereL g 0).toArray := by rw [thereL_zero]; rfl
      rw [hz]
      clear hz
      have hT0 : Whole ((w.alloc (.cells #[.int .i64 wd, .int .i64 dp, .slice A n c] 25)).alloc (.cells (thereL g 0).toArray 48)) (w.heap.size + 1) 48 (thereL g 0) := by
        have := Whole.new (w.alloc (.cells #[.int .i64 wd, .int .i64 dp, .slice A n c] 25)) 48 (thereL g 0)
        simpa using this
      have hb2 : Below w.heap.size w ((w.alloc (.cells #[.int .i64 wd, .int .i64 dp, .slice A n c] 25)).alloc (.cells (thereL g 0).toArray 48)) := hbox.alloc (by simp) _
      generalize (w.alloc (.cells #[.int .i64 wd, .int .i64 dp, .slice A n c] 25)).alloc (.cells (thereL g 0).toArray 48) = w2 at hT0 hb2 ⊢
      obtain ⟨L, HLo⟩ : ∃ L, Hid (L = w.heap.size + 1) := ⟨_, rfl⟩
      rw [← HLo.out] at hT0 ⊢
      go_loopw [38] (fun i wr => ∃ k : Nat, k ≤ n ∧ i = .int .i64 k ∧ (∀ i, i < k → cellAt g i = true) ∧ Whole wr L 48 (thereL g k) ∧ Below w.heap.size w wr) (fun i _ => n - (intOf i).toNat)
      case atStart => exact ⟨0, Nat.zero_le _, rfl, fun i h => by omega, hT0, hb2⟩
      case round =>
        obtain ⟨k, hk, rfl, hok, hW, hbw⟩ := hrel
        have HOK := Lib.hid hok
        clear hok hT0 hb2
        by_cases hlt : k < n
        · obtain ⟨z, b, off, HZ, rfl, hb, hc⟩ := (hg.below hbw).get hlt
          have HE := Lib.hid (cellAt_get HZ)
          have hk0 : (0 : Int) ≤ (k : Int) := by omega
          have hk1 : (k : Int) < (n : Int) := by omega
          by_cases hz0 : z < 0
          · have e1 : decide (z < 0) = true := by simpa using hz0
            go_wp2
            go_ret
            exact ⟨ret_bool (hallB_bad (k := k) (by have := HL.out; omega) (by rw [HE.out]; unfold cellZ; simp; omega)).symm, hbw⟩
          by_cases hz9 : 99 < z
          · have e1 : decide (z < 0) = false := by simpa using hz0
            have e2 : decide (99 < z) = true := by simpa using hz9
            go_wp2
            go_ret
            exact ⟨ret_bool (hallB_bad (k := k) (by have := HL.out; omega) (by rw [HE.out]; unfold cellZ; simp; omega)).symm, hbw⟩
          obtain ⟨p, rfl⟩ : ∃ p : Nat, z = p := ⟨z.toNat, by omega⟩
          have hp : p < 100 := by omega
          have e1 : decide ((p : Int) < 0) = false := by simp
          have e2 : decide (99 < (p : Int)) = false := by simp; omega
          have e3 : decide (99 < p) = false := by simp; omega
          have hp0 : (0 : Int) ≤ (p : Int) := by omega
          have hp1 : (p : Int) < 100 := by omega
          have hT := (hW.cell p).trans (thereL_get g k hp)
          cases ht : thereB g k p
          · rw [ht] at hT
            have HT := Lib.hid ht
            have hf := hW.free p
            clear ht hz0 hz9
            have HC : Hid (cellZ (g.take k) (p : Int) = true) := Lib.hid (by
              have h := HT.out
              unfold thereB at h
              unfold cellZ
              have h2 : decide (0 < (p : Int)) = decide (0 < p) := by simp
              rw [h2, h]; simp; omega)
            have hLge : w.heap.size ≤ L := by have := HLo.out; omega
            go_wp2
            go_roundw
            case rel =>
              refine ⟨k + 1, by omega, by go_num, cellAt_next HOK.out (by rw [HE.out]; exact HC.out), ?_, hbw.setCell (by simpa using hLge) _⟩
              rw [← thereL_next HZ rfl HC.out]
              have := hW.set_ p (.bool (decide (0 < (p : Int))))
              simpa using this
            case measure => simp [intOf]; omega
          · rw [ht] at hT
            have HT := Lib.hid ht
            clear ht hz0 hz9
            go_wp2
            go_ret
            refine ⟨ret_bool (hallB_bad (k := k) (by have := HL.out; omega) ?_).symm, hbw⟩
            rw [HE.out]
            have h := HT.out
            unfold thereB at h
            unfold cellZ
            have h2 : decide (0 < (p : Int)) = decide (0 < p) := by simp
            rw [h2, h]; simp
        · go_wp2
          go_ret
          refine ⟨ret_bool ?_, hbw⟩
          symm
          have h1 := HL.out
          exact hallB_all ⟨HR.out.1, HR.out.2.1, HR.out.2.2.1, HR.out.2.2.2, by have a := HNQ.out; have d := hq.out; omega⟩ (fun i hi => HOK.out i (by omega))
    · have hne : ((n : Int) != q) = true := bne_iff_ne.2 hnq
      have HNQ := Lib.hid hnq
      clear hnq
      go_enter Tryz.func8, Tryz.ntmps8
      go_wp2
      go_ret
      exact ⟨ret_bool (hallB_size (by have a := HNQ.out; have b := HL.out; have d := hq.out; omega)).symm, hbox⟩
  · by_cases e1 : wd < 2
    · have d1 : decide (wd < 2) = true := by simpa using e1
      go_enter Tryz.func8, Tryz.ntmps8
      go_wp2
      go_ret
      exact ⟨ret_bool (hallB_size (by omega)).symm, hbox⟩
    have d1 : decide (wd < 2) = false := by simpa using e1
    by_cases e2 : 4 < wd
    · have d2 : decide (4 < wd) = true := by simpa using e2
      go_enter Tryz.func8, Tryz.ntmps8
      go_wp2
      go_ret
      exact ⟨ret_bool (hallB_size (by omega)).symm, hbox⟩
    have d2 : decide (4 < wd) = false := by simpa using e2
    by_cases e3 : dp < 2
    · have d3 : decide (dp < 2) = true := by simpa using e3
      go_enter Tryz.func8, Tryz.ntmps8
      go_wp2
      go_ret
      exact ⟨ret_bool (hallB_size (by omega)).symm, hbox⟩
    have d3 : decide (dp < 2) = false := by simpa using e3
    have d4 : decide (3 < dp) = true := by simp; omega
    go_enter Tryz.func8, Tryz.ntmps8
    go_wp2
    go_ret
    exact ⟨ret_bool (hallB_size (by omega)).symm, hbox⟩
end Go.Proofs.YtdebjcempkgeaaaGreatDoor
