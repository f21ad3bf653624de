/-
  The statements' own fixed answer: HallText of one hall, and of none.
-/
import Derived.Test.YtdebjcempkgeaaaGreatDoorHall1
import Derived.Test.YtdebjcempkgeaaaGreatDoorBld
namespace Go.Proofs.YtdebjcempkgeaaaGreatDoor
open Go.ChangeShapes Go.WideShapes Go.ChangeAt Go.RowKit

set_option maxRecDepth 100000 in
set_option maxHeartbeats 2000000 in
theorem hallText_none (w : World) : Calls Tryz.prog 26 #[.agg #[.int .i64 0, .int .i64 0, .slice none 0 0]] w (RV w (.string ⟨#[]⟩)) := by
  have hbox : Below w.heap.size w (w.alloc (.cells #[.int .i64 0, .int .i64 0, .slice none 0 0] 25)) := (Below.refl _ _).alloc (Nat.le_refl _) _
  have hb0 : hallB 0 0 [] = false := by decide
  go_enter Tryz.func26, Tryz.ntmps26
  go_wp2_with fail
  refine (hallValid_any 0 0 none 0 0 [] _ (by omega) (SlAt.nil _ _ _)).mono ?_; rintro e w1 ⟨rfl, hb1⟩
  rw [hb0]
  go_wp2
  go_ret
  exact ⟨rfl, below_next hbox hb1⟩

theorem dd7 : Lib.decDigits 7 = [55] := by decide +kernel
/-- The text after k cells. -/
def txt7 : Nat → List UInt8
  | 0 => []
  | 1 => [46]
  | 2 => [46, 44, 55]
  | 3 => [46, 44, 55, 47, 46]
  | _ => [46, 44, 55, 47, 46, 44, 46]
theorem bld_keep {w' : World} {B b : Nat} {l : List UInt8} {p : Value} {bs : List Value} (h : Lib.BuilderAt 69 5 B b p bs w') (hp : p = .pointer (some ⟨b, 0, none⟩)) (he : bs = Lib.byteCells l) : Lib.IsBuilder 69 5 B b (Lib.byteCells l) w' := by
  subst hp; subst he; exact .inr h

theorem ints_at_whole {w : World} {g : Nat} {r : List Int} (h : Whole w g 3 (r.map (Value.int .i64))) : IntsAt w (some ⟨g, 0, none⟩) r.length r := by
  refine ⟨by simp, fun k c hc => ?_⟩
  rw [List.getElem?_map] at hc
  obtain ⟨x, hx, rfl⟩ := Option.map_eq_some_iff.1 hc
  refine ⟨g, 0, rfl, h.lt, rfl, fun j v hv => ?_⟩
  match j, hv with
  | 0, hv => simp at hv; subst hv; rw [h.cell]; simp [hx]

set_option maxRecDepth 100000 in
set_option maxHeartbeats 4000000 in
theorem hallText_seven (g : Nat) (w : World) (hg : IntsAt w (some ⟨g, 0, none⟩) 4 [0, 7, 0, 0]) :
    Calls Tryz.prog 26 #[.agg #[.int .i64 2, .int .i64 2, .slice (some ⟨g, 0, none⟩) 4 4]] w (RV w (.string ⟨#[46, 44, 55, 47, 46, 44, 46]⟩)) := by
  have hbox : Below w.heap.size w (w.alloc (.cells #[.int .i64 2, .int .i64 2, .slice (some ⟨g, 0, none⟩) 4 4] 25)) := (Below.refl _ _).alloc (Nat.le_refl _) _
  have hb0 : hallB 2 2 [0, 7, 0, 0] = true := by decide
  go_enter Tryz.func26, Tryz.ntmps26
  go_wp2_with fail
  refine (hallValid_any 2 2 (some ⟨g, 0, none⟩) 4 4 [0, 7, 0, 0] _ (by omega) (hg.below hbox)).mono ?_; rintro e w1 ⟨rfl, hb1⟩
  rw [hb0]
  have hcp := ((Whole.new w 25 [.int .i64 2, .int .i64 2, .slice (some ⟨g, 0, none⟩) 4 4]).below hb1)
  have hbw1 := below_next hbox hb1
  have hLt := hcp.lt
  obtain ⟨L, HLo⟩ : ∃ L, Hid (L = w.heap.size) := ⟨_, rfl⟩
  rw [← HLo.out] at hcp hLt ⊢
  have hq0 := hcp.cell 0
  have hq2 := hcp.cell 2
  simp only [List.getElem?_cons_zero, List.getElem?_cons_succ] at hq0 hq2
  have hne : L ≠ w1.heap.size := by omega
  go_wp2
  have hB0 : Lib.IsBuilder 69 5 w1.heap.size w1.heap.size (Lib.byteCells (txt7 0)) (w1.alloc (.cells #[.pointer none, .slice none 0 0] 69)) :=
    .inl ⟨Nat.le_refl _, _, Whole.new w1 _ [.pointer none, .slice none 0 0], ⟨rfl, .inl ⟨rfl, rfl⟩⟩, by simp [Value.ownBlock]⟩
  have hb2 : Below w1.heap.size w1 (w1.alloc (.cells #[.pointer none, .slice none 0 0] 69)) := (Below.refl _ _).alloc (Nat.le_refl _) _
  have hs2 : (w1.alloc (.cells #[.pointer none, .slice none 0 0] 69)).heap.size = w1.heap.size + 1 := by simp
  generalize w1.alloc (.cells #[.pointer none, .slice none 0 0] 69) = w2 at hB0 hb2 hs2 ⊢
  have HS2 := Lib.hid hs2
  clear hs2
  obtain ⟨b, HBo⟩ : ∃ b, Hid (b = w1.heap.size) := ⟨_, rfl⟩
  rw [← HBo.out] at hB0 ⊢
  have hW2 : Below b w1 w2 := by rw [HBo.out]; exact hb2
  have hLb : L < b := by rw [HBo.out]; exact hLt
  clear hq0 hq2 hne hb0
  go_loopw [12] (fun i wr => ∃ k : Nat, k ≤ 4 ∧ i = .int .i64 k ∧ Lib.IsBuilder 69 5 b b (Lib.byteCells (txt7 k)) wr ∧ Below b w1 wr) (fun i _ => 4 - (intOf i).toNat)
  case atStart => exact ⟨0, by omega, rfl, hB0, hW2⟩
  case round =>
    obtain ⟨k, hk, rfl, hB, hbw⟩ := hrel
    clear hB0 hW2
    have hcw := hcp.belowN hbw hLb
    have hq0 := hcw.cell 0
    simp only [List.getElem?_cons_zero] at hq0
    have hbB : b ≤ wr.heap.size := by
      have h1 := hbw.size; have h2 := HBo.out; omega
    have hgk : ∀ k : Nat, k < 4 → ∃ z : Int, ([0, 7, 0, 0] : List Int)[k]? = some z ∧ wr.cell? ⟨g, k, none⟩ = some (.int .i64 z) := by
      intro k hk
      obtain ⟨z, b', off', HZ, hA, hb', hc⟩ := (hg.below hbw1).get hk
      injection hA with hA; injection hA with h1 h2; subst h1; subst h2
      have hbb : g < b := by have := HBo.out; omega
      refine ⟨z, HZ.out, ?_⟩
      have := (hbw.cell (p := ⟨g, 0 + k, none⟩) hbb).trans hc
      simpa using this
    have HGK := Lib.hid hgk
    clear hgk
    have hk5 : k = 0 ∨ k = 1 ∨ k = 2 ∨ k = 3 ∨ k = 4 := by omega
    rcases hk5 with rfl | rfl | rfl | rfl | rfl
    · obtain ⟨z, hz, hc⟩ := HGK.out 0 (by omega)
      injection hz with hz
      subst hz
      go_wp2_with fail
      refine (writeByte_any b b _ _ _ hB (by decide) hbB).mono ?_; rintro e w3 ⟨rfl, hB3, hb3⟩
      go_wp2
      go_roundw
      case rel => exact ⟨1, by omega, rfl, bld_keep hB3 rfl rfl, hbw.trans hb3⟩
      case measure => simp [intOf]
    · obtain ⟨z, hz, hc⟩ := HGK.out 1 (by omega)
      injection hz with hz
      subst hz
      go_wp2_with fail
      refine (writeByte_any b b _ _ _ hB (by decide) hbB).mono ?_; rintro e w3 ⟨rfl, hB3, hb3⟩
      go_wp2_with fail
      refine (Tryz.strconv_Itoa_small 7 (by omega) _).mono ?_; rintro e w4 ⟨rfl, rfl⟩
      rw [dd7]
      have hs3 := hb3.size
      go_wp2_with fail
      refine (writeString_any b b _ _ _ (.inr hB3) (by decide) (by omega)).mono ?_; rintro e w5 ⟨rfl, hB5, hb5⟩
      go_wp2
      go_roundw
      case rel => exact ⟨2, by omega, rfl, bld_keep hB5 rfl rfl, (hbw.trans hb3).trans hb5⟩
      case measure => simp [intOf]
    · obtain ⟨z, hz, hc⟩ := HGK.out 2 (by omega)
      injection hz with hz
      subst hz
      go_wp2_with fail
      refine (writeByte_any b b _ _ _ hB (by decide) hbB).mono ?_; rintro e w3 ⟨rfl, hB3, hb3⟩
      have hs3 := hb3.size
      go_wp2_with fail
      refine (writeByte_any b b _ _ _ (.inr hB3) (by decide) (by omega)).mono ?_; rintro e w5 ⟨rfl, hB5, hb5⟩
      go_wp2
      go_roundw
      case rel => exact ⟨3, by omega, rfl, bld_keep hB5 rfl rfl, (hbw.trans hb3).trans hb5⟩
      case measure => simp [intOf]
    · obtain ⟨z, hz, hc⟩ := HGK.out 3 (by omega)
      injection hz with hz
      subst hz
      go_wp2_with fail
      refine (writeByte_any b b _ _ _ hB (by decide) hbB).mono ?_; rintro e w3 ⟨rfl, hB3, hb3⟩
      have hs3 := hb3.size
      go_wp2_with fail
      refine (writeByte_any b b _ _ _ (.inr hB3) (by decide) (by omega)).mono ?_; rintro e w5 ⟨rfl, hB5, hb5⟩
      go_wp2
      go_roundw
      case rel => exact ⟨4, by omega, rfl, bld_keep hB5 rfl rfl, (hbw.trans hb3).trans hb5⟩
      case measure => simp [intOf]
    · go_wp2_with fail
      refine (Tryz.Builder_String_any b b (txt7 4) _ hB hbB).mono ?_; rintro e w3 ⟨rfl, hb3⟩
      go_wp2
      go_ret
      refine ⟨rfl, hbw1.trans ((hbw.trans hb3).mono ?_)⟩
      have := HBo.out; have := hbw1.size; omega
set_option maxRecDepth 100000 in
set_option maxHeartbeats 2000000 in
theorem alive_any (w : World) : Calls Tryz.prog 9 #[] w (RV w (.bool true)) := by
  have hbs : ∀ w : World, (Instr.buildSlice 23 4 #[(0, .int .i64 0), (1, .int .i64 7), (2, .int .i64 0), (3, .int .i64 0)]).run Tryz.prog w = .ok (.slice (some ⟨w.heap.size, 0, none⟩) 4 4) (w.alloc (.cells #[.int .i64 0, .int .i64 7, .int .i64 0, .int .i64 0] 3)) := fun _ => by kernel_rfl
  have hW := Whole.new w 3 (([0, 7, 0, 0] : List Int).map (Value.int .i64))
  have hbe : Below w.heap.size w (w.alloc (.cells #[.int .i64 0, .int .i64 7, .int .i64 0, .int .i64 0] 3)) := (Below.refl _ _).alloc (Nat.le_refl _) _
  go_enter Tryz.func9, Tryz.ntmps9
  go_wp2_with fail
  refine (hallText_seven w.heap.size _ (ints_at_whole hW)).mono ?_; rintro e w1 ⟨rfl, hb1⟩
  go_wp2_with fail
  refine (hallText_none _).mono ?_; rintro e w2 ⟨rfl, hb2⟩
  go_wp2
  go_ret
  exact ⟨rfl, below_next (below_next hbe hb1) hb2⟩
end Go.Proofs.YtdebjcempkgeaaaGreatDoor
