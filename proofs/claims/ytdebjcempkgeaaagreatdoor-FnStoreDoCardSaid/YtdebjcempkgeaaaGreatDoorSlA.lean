/-
  SlidesAll of the reference: slides between cells of the hall.
-/
import Derived.Test.YtdebjcempkgeaaaGreatDoorSlC
import Derived.Test.YtdebjcempkgeaaaGreatDoorHallE
namespace Go.Proofs.YtdebjcempkgeaaaGreatDoor
open Go.ChangeShapes Go.WideShapes Go.ChangeAt Go.RowKit

theorem wpList_moreSlB {ops : Array Oper} {rest : List Oper} {o : Oper} {a : Act} {Q : Exit → Act → World → Prop} {base : Nat} {wr : World} (hgd : o.guard = none) (s x : Operand)
    (ho : o.op = .call { callee := .builtin .append, args := #[s, x], argTypes := #[40, 40] })
    {v : Value} {n : Nat} {ns : List (Nat × Nat)} (hbase : base ≤ wr.heap.size) (hown : wr.ownsRow base 62 2 v n (slc ns).flatten) (z : Nat × Nat) (hs : a.eval s = v)
    (hx : a.eval x = .slice (some ⟨wr.heap.size, 0, none⟩) 1 1) (hn : n ≤ 1048576)
    (h : ∀ g cap w', w'.ownsRow base 62 2 (.slice (some ⟨g, 0, none⟩) (n + 1) cap) (n + 1) (slc (ns ++ [z])).flatten → Below base wr w' → wpList Tryz.prog ops Q rest (a.put o.dst (.slice (some ⟨g, 0, none⟩) (n + 1) cap)) w') :
    wpList Tryz.prog ops Q (o :: rest) a (wr.alloc (.cells #[.int .i64 (z.1 : Int), .int .i64 (z.2 : Int)] 62)) := by
  refine wpList_moreSl hgd s x ho hbase hown z hs hx hn ?_
  intro g cap w' hown' hgrow _
  exact h g cap w' hown' (((Below.refl base wr).alloc hbase _).grown hgrow (by simp; omega) (fun q hq => (hown.lt q hq).1))
/-- The call answers slides between cells of the hall, that it has made itself. -/
def SLA (w : World) (n : Nat) (e : Ending) (w' : World) : Prop :=
  ∃ l : List (Nat × Nat), Hid (∀ p ∈ l, p.1 < n ∧ p.2 < n) ∧ l.length ≤ 144 ∧ SLI w l e w'

set_option maxRecDepth 100000 in
set_option maxHeartbeats 4000000 in
theorem specSlidesAll_any (W D n : Nat) (A : Option Addr) (c : Nat) (g : List Int) (w : World) (h : HallAt w W D n A c g) :
    Calls Tryz.prog 52 #[.agg #[.int .i64 W, .int .i64 D, .slice A n c]] w (SLA w n) := by
  have hn := h.shp.n12
  have hbs : ∀ w : World, (Instr.buildSlice 40 0 #[]).run Tryz.prog w = .ok (.slice (some ⟨w.heap.size, 0, none⟩) 0 0) (w.alloc (.cells #[] 62)) := fun _ => by kernel_rfl
  have hW := Whole.new w 25 [.int .i64 W, .int .i64 D, .slice A n c]
  have hB1 : Below w.heap.size w (w.alloc (.cells #[.int .i64 W, .int .i64 D, .slice A n c] 25)) := (Below.refl _ _).alloc (Nat.le_refl _) _
  have H := Lib.hid h
  clear h
  go_enter Tryz.func52, Tryz.ntmps52
  go_wp2_with fail
  clear hbs
  obtain ⟨Q, HQ⟩ : ∃ Q, Hid (Q = w.heap.size) := ⟨_, rfl⟩
  have hsz : (w.alloc (.cells #[.int .i64 W, .int .i64 D, .slice A n c] 25)).heap.size = Q + 1 := by rw [HQ.out]; simp
  have hO1 := ownS0 (base := Q + 1) (w1 := w.alloc (.cells #[.int .i64 W, .int .i64 D, .slice A n c] 25)) (by omega)
  have hW2 := hW.alloc (.cells #[] 62)
  have hB2 := hB1.alloc hB1.size (.cells #[] 62)
  rw [hsz] at hO1
  rw [← HQ.out] at hW2 ⊢
  clear hW hB1 hsz
  generalize (w.alloc (.cells #[.int .i64 W, .int .i64 D, .slice A n c] 25)).alloc (.cells #[] 62) = w3 at *
  go_loopw [3, 4, 5] (fun v i u wr => ∃ (k m cc : Nat) (B : Option Addr) (l : List (Nat × Nat)), k ≤ n ∧ i = .int .i64 k ∧ v = .slice B m cc ∧ m ≤ k * 12 ∧ l.length = m ∧ Hid (∀ p ∈ l, p.1 < n ∧ p.2 < n) ∧ wr.ownsRow (Q + 1) 62 2 (.slice B m cc) m (slc l).flatten ∧ Whole wr Q 25 [.int .i64 W, .int .i64 D, .slice A n c] ∧ Below w.heap.size w wr) (fun _ i _ _ => n - (intOf i).toNat)
  case atStart => exact ⟨0, 0, 0, _, [], Nat.zero_le _, rfl, rfl, Nat.zero_le _, rfl, Lib.hid (by simp), hO1, hW2, hB2⟩
  case round =>
    obtain ⟨k, m, cc, B, l, hk, rfl, rfl, hmk, hl, HL, hO, hWr, hbw⟩ := hrel
    clear hW2 hB2 hO1
    have q2 := hWr.cell 2
    simp only [List.getElem?_cons_zero, List.getElem?_cons_succ] at q2
    by_cases hlt : k < n
    · go_wp2
      go_loopw [3, 5] (fun v i wi => ∃ (j m cc : Nat) (B : Option Addr) (l : List (Nat × Nat)), j ≤ n ∧ i = .int .i64 j ∧ v = .slice B m cc ∧ m ≤ k * 12 + j ∧ l.length = m ∧ Hid (∀ p ∈ l, p.1 < n ∧ p.2 < n) ∧ wi.ownsRow (Q + 1) 62 2 (.slice B m cc) m (slc l).flatten ∧ Whole wi Q 25 [.int .i64 W, .int .i64 D, .slice A n c] ∧ Below w.heap.size w wi) (fun _ i _ => n - (intOf i).toNat)
      case atStart => exact ⟨0, m, cc, B, l, Nat.zero_le _, rfl, rfl, by omega, hl, HL, hO, hWr, hbw⟩
      case round =>
        obtain ⟨j, m2, c2, B2, l2, hj, rfl, rfl, hm2, hl2, HL2, hO2, hW2, hb2⟩ := hrel
        clear hO hWr hbw q2 hmk hl HL
        have q0 := hW2.cell 0
        have q1 := hW2.cell 1
        have q2 := hW2.cell 2
        simp only [List.getElem?_cons_zero, List.getElem?_cons_succ] at q0 q1 q2
        by_cases hlj : j < n
        · obtain ⟨r, hr⟩ : ∃ r, mayB W g k j = r := ⟨_, rfl⟩
          go_wp2_with fail
          refine (specSlideMay_any W D n A c g k j _ (H.out.below hb2) hlt hlj r hr).mono ?_; rintro e w6 ⟨rfl, hb6⟩
          have hO6 := own_keep hO2 hb6
          have hW6 := hW2.below hb6
          have hB6 := below_next hb2 hb6
          clear hO2 hW2 hb2 hb6 q0 q1 q2 hr
          cases r
          · go_wp2
            go_roundw
            case rel => exact ⟨j + 1, m2, c2, B2, l2, by omega, by go_num, rfl, by omega, hl2, HL2, hO6, hW6, hB6⟩
            case measure => simp [intOf]; omega
          · go_wp2_with (at_builtin; (refine wpList_moreSlB (base := Q + 1) rfl (.tmp 26) (.tmp 30) rfl (by have := hW6.lt; omega) hO6 (k, j) rfl rfl (by omega) ?_; intro g' c' w7 hO7 hb7))
            go_roundw
            case rel => exact ⟨j + 1, m2 + 1, c', _, l2 ++ [(k, j)], by omega, by go_num, rfl, by omega, by simp [hl2], Lib.hid (fun p hp => by rcases List.mem_append.1 hp with h | h; exact HL2.out p h; simp at h; subst h; exact ⟨hlt, hlj⟩), hO7, hW6.belowN hb7 (by omega), hB6.trans (hb7.mono (by rw [HQ.out]; omega))⟩
            case measure => simp [intOf]; omega
        · obtain rfl : j = n := by omega
          go_wp2
          go_roundw
          case rel => exact ⟨k + 1, m2, c2, B2, l2, by omega, by go_num, rfl, by omega, hl2, HL2, hO2, hW2, hb2⟩
          case measure => simp [intOf]; omega
    · obtain rfl : k = n := by omega
      go_wp2
      go_ret
      exact ⟨l, HL, by omega, B, m, cc, rfl, Joins.ownsRow_le hO (by rw [HQ.out]; omega), hl, hbw⟩
end Go.Proofs.YtdebjcempkgeaaaGreatDoor
