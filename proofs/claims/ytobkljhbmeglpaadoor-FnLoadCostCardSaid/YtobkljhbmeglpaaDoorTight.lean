/-
  TightHours and LeastFeed of the program and of the reference.
-/
import Derived.Test.YtobkljhbmeglpaaDoorEnough
namespace Go.Proofs.YtobkljhbmeglpaaDoor
open Go.ChangeShapes Go.WideShapes Go.ChangeAt Go.RowKit

def FirstR (p : Nat → Bool) (n : Nat) (w : World) (e : Ending) (w' : World) : Prop := ∃ r : Int, e = .returned (.int .i64 r) ∧ FirstIs p n r ∧ Below w.heap.size w w'
def tightP (ns : List N4) (feed : List Int) (s : Nat) : Bool := needsB ns && feedB feed && decide (cutI ns feed s = mostI ns feed)
theorem tightP_no {ns : List N4} {feed : List Int} (h : needsB ns = false ∨ feedB feed = false) (s : Nat) : tightP ns feed s = false := by
  unfold tightP
  rcases h with h | h <;> rw [h] <;> simp
theorem tightP_yes {ns : List N4} {feed : List Int} (hN : needsB ns = true) (hF : feedB feed = true) (s : Nat) : tightP ns feed s = decide (cutI ns feed s = mostI ns feed) := by
  unfold tightP; rw [hN, hF]; simp
theorem split_ok {ns : List N4} {feed : List Int} (h : ¬ (needsB ns = true ∧ feedB feed = true)) : needsB ns = false ∨ feedB feed = false := by
  cases h1 : needsB ns
  · exact .inl rfl
  · cases h2 : feedB feed
    · exact .inr rfl
    · exact absurd ⟨h1, h2⟩ h


def leastP (ns : List N4) (u : Nat) : Bool := enoughR ns (List.replicate 6 (u : Int))
theorem leastP_no {ns : List N4} (h : needsB ns = false) (u : Nat) : leastP ns u = false := enoughR_no (.inl h)
set_option maxHeartbeats 2000000 in
theorem leastFeed_any (A : Option Addr) (n c : Nat) (ns : List N4) (w : World) (hn : n ≤ 9223372036854775807) (hx : NeedsAt w A n ns) :
    Calls Tryd.prog 38 #[.slice A n c] w (FirstR (leastP ns) 31 w) := by
  cases hN : needsB ns
  · have HN := Lib.hid hN
    go_enter Tryd.func38, Tryd.ntmps38
    go_wp2_with fail
    refine (needsValid_any A n c ns _ hn hx).mono ?_; rintro e w1 ⟨rfl, hb1⟩
    go_wp2
    go_ret
    exact ⟨_, rfl, .inr ⟨rfl, fun j _ => leastP_no HN.out j⟩, hb1⟩
  · have hmk : ∀ w : World, (Instr.makeSlice 29 (.int .i64 6) (.int .i64 6)).run Tryd.prog w = .ok (.slice (some ⟨w.heap.size, 0, none⟩) 6 6) (w.alloc (.cells #[.int .i64 0, .int .i64 0, .int .i64 0, .int .i64 0, .int .i64 0, .int .i64 0] 3)) := fun _ => by kernel_rfl
    go_enter Tryd.func38, Tryd.ntmps38
    go_wp2_with fail
    refine (needsValid_any A n c ns _ hn hx).mono ?_; rintro e w1 ⟨rfl, hb1⟩
    go_wp2
    have hx1 := hx.below hb1
    obtain ⟨g, hg⟩ : ∃ g, g = w1.heap.size := ⟨_, rfl⟩
    have hwg : w.heap.size ≤ g := by rw [hg]; exact hb1.size
    have hW0 : Whole (w1.alloc (.cells #[.int .i64 0, .int .i64 0, .int .i64 0, .int .i64 0, .int .i64 0, .int .i64 0] 3)) g 3 [.int .i64 0, .int .i64 0, .int .i64 0, .int .i64 0, .int .i64 0, .int .i64 0] := by
      rw [hg]; exact Whole.new w1 3 [.int .i64 0, .int .i64 0, .int .i64 0, .int .i64 0, .int .i64 0, .int .i64 0]
    have hB0 : Below g w1 (w1.alloc (.cells #[.int .i64 0, .int .i64 0, .int .i64 0, .int .i64 0, .int .i64 0, .int .i64 0] 3)) := (Below.refl _ _).alloc (by omega) _
    have HG := Lib.hid hg
    rw [← hg]
    clear hg
    go_loopw [4] (fun i wr => ∃ (k : Nat) (cs : List Value), k ≤ 31 ∧ i = .int .i64 k ∧ (∀ j, j < k → leastP ns j = false) ∧ Whole wr g 3 cs ∧ cs.length = 6 ∧ Below g w1 wr) (fun i _ => 31 - (intOf i).toNat)
    case atStart => exact ⟨0, _, Nat.zero_le _, rfl, by simp, hW0, rfl, hB0⟩
    case round =>
      obtain ⟨k, cs, hk, rfl, hno, hW, hcs, hbw⟩ := hrel
      have HNO := Lib.hid hno
      have HCS := Lib.hid hcs
      clear hno hW0 hB0 hcs
      obtain ⟨wo, rfl⟩ : ∃ wo : World, wo = wr := ⟨_, rfl⟩
      by_cases hk31 : k < 31
      · go_wp2
        go_loopw [16] (fun i wr => ∃ (h : Nat), h ≤ 6 ∧ i = .int .i64 h ∧ Fill wr g 3 1 6 h (ic (List.replicate h (k : Int))) ∧ Below g w1 wr) (fun i _ => 6 - (intOf i).toNat)
        case atStart => exact ⟨0, Nat.zero_le _, rfl, hW.fill0 HCS.out, hbw⟩
        case round =>
          obtain ⟨h, hh, rfl, hfi, hbi⟩ := hrel
          by_cases hh6 : h < 6
          · obtain ⟨u, hu⟩ := hfi.cell (j := h) (by omega)
            have hz := hfi.free h
            go_wp2
            go_roundw
            case rel => exact ⟨h + 1, by omega, by go_num, by have := hfi.next1 hh6 (.int .i64 (k : Int)); simpa [ic, List.replicate_succ'] using this, hbi.setCell (Nat.le_refl _) _⟩
            case measure => simp [intOf]; omega
          · obtain rfl : h = 6 := by omega
            have hWi := hfi.whole rfl
            rw [ic_flat] at hWi
            have hbb : Below w1.heap.size w1 wr := by have h1 := HG.out; rw [h1] at hbi; exact hbi
            cases hen : leastP ns k
            all_goals
              have HEN := Lib.hid hen
              unfold leastP at hen
              go_wp2_with fail
              refine (enough_any A n c ns _ 6 6 (List.replicate 6 (k : Int)) _ hn (hx1.below hbb) (by omega) (ints_whole hWi (by simp))).mono ?_; rintro e w2 ⟨rfl, hb2⟩
              rw [hen]
              clear hen
              go_wp2
            · go_roundw
              case rel =>
                refine ⟨k + 1, _, by omega, by go_num, fun j hj => ?_, hWi.below hb2, by simp, hbi.trans (hb2.mono (by have := hfi.lt; omega))⟩
                rcases Nat.lt_or_ge j k with h2 | h2
                · exact HNO.out j h2
                · have : j = k := by omega
                  subst this; exact HEN.out
              case measure => simp [intOf]; omega
            · go_ret
              exact ⟨_, rfl, .inl ⟨k, hk31, rfl, HEN.out, HNO.out⟩, hb1.trans ((hbi.trans (hb2.mono (by have := hfi.lt; omega))).mono hwg)⟩
      · go_wp2
        go_ret
        exact ⟨_, rfl, .inr ⟨rfl, fun j hj => HNO.out j (by omega)⟩, hb1.trans (hbw.mono hwg)⟩
set_option maxHeartbeats 2000000 in
theorem specLeastFeed_any (A : Option Addr) (n c : Nat) (ns : List N4) (w : World) (hn : n ≤ 9223372036854775807) (hx : NeedsAt w A n ns) :
    Calls Tryd.prog 39 #[.slice A n c] w (FirstR (leastP ns) 31 w) := by
  go_enter Tryd.func39, Tryd.ntmps39
  go_wp2
  go_loopw [3] (fun i wr => ∃ k : Nat, k ≤ 31 ∧ i = .int .i64 k ∧ (∀ j, j < k → leastP ns j = false) ∧ (k = 0 ∨ needsB ns = true) ∧ Below w.heap.size w wr) (fun i _ => 31 - (intOf i).toNat)
  case atStart => exact ⟨0, Nat.zero_le _, rfl, by simp, .inl rfl, Below.refl _ _⟩
  case round =>
    obtain ⟨k, hk, rfl, hno, hv, hbw⟩ := hrel
    have HNO := Lib.hid hno
    have HV := Lib.hid hv
    clear hno hv
    by_cases hk31 : k < 31
    · cases hN : needsB ns
      · have HN := Lib.hid hN
        go_wp2_with fail
        refine (specNeedsValid_any A n c ns _ hn (hx.below hbw)).mono ?_; rintro e w1 ⟨rfl, hb1⟩
        go_wp2
        go_ret
        exact ⟨_, rfl, .inr ⟨rfl, fun j _ => leastP_no HN.out j⟩, below_next hbw hb1⟩
      · have HN := Lib.hid hN
        cases hen : leastP ns k
        all_goals
          have HEN := Lib.hid hen
          unfold leastP at hen
          have hbs : ∀ w : World, (Instr.buildSlice 29 6 #[(0, .int .i64 (k : Int)), (1, .int .i64 (k : Int)), (2, .int .i64 (k : Int)), (3, .int .i64 (k : Int)), (4, .int .i64 (k : Int)), (5, .int .i64 (k : Int))]).run Tryd.prog w = .ok (.slice (some ⟨w.heap.size, 0, none⟩) 6 6) (w.alloc (.cells #[.int .i64 (k : Int), .int .i64 (k : Int), .int .i64 (k : Int), .int .i64 (k : Int), .int .i64 (k : Int), .int .i64 (k : Int)] 3)) := fun _ => by kernel_rfl
          go_wp2_with fail
          refine (specNeedsValid_any A n c ns _ hn (hx.below hbw)).mono ?_; rintro e w1 ⟨rfl, hb1⟩
          go_wp2_with fail
          have hW1 : Whole (w1.alloc (.cells #[.int .i64 (k : Int), .int .i64 (k : Int), .int .i64 (k : Int), .int .i64 (k : Int), .int .i64 (k : Int), .int .i64 (k : Int)] 3)) w1.heap.size 3 ((List.replicate 6 (k : Int)).map (Value.int .i64)) := Whole.new w1 3 [.int .i64 (k : Int), .int .i64 (k : Int), .int .i64 (k : Int), .int .i64 (k : Int), .int .i64 (k : Int), .int .i64 (k : Int)]
          have hB1 : Below w.heap.size w (w1.alloc (.cells #[.int .i64 (k : Int), .int .i64 (k : Int), .int .i64 (k : Int), .int .i64 (k : Int), .int .i64 (k : Int), .int .i64 (k : Int)] 3)) := (below_next hbw hb1).alloc (below_next hbw hb1).size _
          refine (specEnough_any A n c ns _ 6 6 (List.replicate 6 (k : Int)) _ hn (hx.below hB1) (by omega) (ints_whole hW1 (by simp))).mono ?_; rintro e w2 ⟨rfl, hb2⟩
          have hB2 := below_next hB1 hb2
          rw [hen]
          clear hen hW1 hbs
          go_wp2
        · go_roundw
          case rel =>
            refine ⟨k + 1, by omega, by go_num, fun j hj => ?_, .inr (by first | exact HN.out | trivial), hB2⟩
            rcases Nat.lt_or_ge j k with h2 | h2
            · exact HNO.out j h2
            · have : j = k := by omega
              subst this; exact HEN.out
          case measure => simp [intOf]; omega
        · go_ret
          exact ⟨_, rfl, .inl ⟨k, hk31, rfl, HEN.out, HNO.out⟩, hB2⟩
    · go_wp2
      go_ret
      exact ⟨_, rfl, .inr ⟨rfl, fun j hj => HNO.out j (by omega)⟩, hbw⟩
end Go.Proofs.YtobkljhbmeglpaaDoor
