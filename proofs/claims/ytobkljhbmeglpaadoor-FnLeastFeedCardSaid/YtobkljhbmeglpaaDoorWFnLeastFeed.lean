/-
  The law FnLeastFeed: with the least feed in every hour it is enough, and with 1 less it is not.
-/
import Derived.Test.YtobkljhbmeglpaaDoorDrNeeds
import Derived.Test.YtobkljhbmeglpaaDoorAlive
import Derived.Test.YtobkljhbmeglpaaDoorChargeP
namespace Go.Proofs.YtobkljhbmeglpaaDoor
open Go.ChangeShapes Go.WideShapes Go.ChangeAt Go.RowKit

def DrawLfR (w : World) (e : Ending) (w' : World) : Prop :=
  ∃ (g m d : Nat) (ns : List N4), e = .returned (.slice (some ⟨g, 0, none⟩) m d) ∧ NeedsAt w' (some ⟨g, 0, none⟩) m ns ∧ m ≤ 7 ∧ Below w.heap.size w w'
set_option maxHeartbeats 1000000 in
theorem drawLeastFeed_any (w : World) (A : Option Addr) (n c : Nat) (bs : List Int) (hn : n ≤ c ∧ c ≤ 9223372036854775807) (hb : BytesAt w A n bs) :
    Calls Tryd.prog 37 #[.slice A n c] w (DrawLfR w) := by
  go_enter Tryd.func37, Tryd.ntmps37
  go_wp2_with fail
  refine (open_any w A n c bs hn hb).mono ?_; rintro e w2 ⟨R, A1, n1, c1, bs1, rfl, hR2⟩
  go_wp2_with fail
  refine (l20Needs_any w w2 R A1 n1 c1 bs1 0 9 hR2 (by omega) (by omega) (by omega)).mono ?_; rintro e w3 ⟨g, m, d, ns, rfl, hO, hm, hR3, hf3⟩
  go_wp2
  go_ret
  exact ⟨g, m, d, ns, rfl, hO.slAt, hm, hR3.bw⟩

/-- One number more behind a list of the call's own: what else lies where it lay. -/
theorem wpList_moreG {ops : Array Oper} {rest : List Oper} {o : Oper} {a : Act} {Q : Exit → Act → World → Prop} {base : Nat} {wr : World} (hgd : o.guard = none) (s x : Operand)
    (ho : o.op = .call { callee := .builtin .append, args := #[s, x], argTypes := #[29, 29] })
    {v : Value} {n : Nat} {xs : List Int} (hbase : base ≤ wr.heap.size) (hown : wr.ownsRow base 3 1 v n (xs.map (Value.int .i64))) (z : Int) (hs : a.eval s = v)
    (hx : a.eval x = .slice (some ⟨wr.heap.size, 0, none⟩) 1 1) (hn : n ≤ 1048576)
    (h : ∀ g cap w', w'.ownsRow base 3 1 (.slice (some ⟨g, 0, none⟩) (n + 1) cap) (n + 1) ((xs ++ [z]).map (Value.int .i64)) → (wr.alloc (.cells #[.int .i64 z] 3)).grownBy w' v.ownBlock → (v.ownBlock = some g ∨ g = wr.heap.size + 1) → wpList Tryd.prog ops Q rest (a.put o.dst (.slice (some ⟨g, 0, none⟩) (n + 1) cap)) w') :
    wpList Tryd.prog ops Q (o :: rest) a (wr.alloc (.cells #[.int .i64 z] 3)) := by
  obtain ⟨i0, hi, hz0, hz1, hz2⟩ := info_parts int_info
  refine wpList_append_lies _ hgd s x 29 ho base 3 i0 (.int .i64 0) 1 8 Tryd.underlying29 hi hz0 hz1 hz2 rfl (by decide) v n _ hs (hown.alloc _) ⟨wr.heap.size, 0, none⟩ 1 1 [.int .i64 z] hx rfl (new_cells wr _ [.int .i64 z]) ?_ (by omega) (by unfold maxLen; omega) (by omega) (by simp; omega) (wr.heap.size + 1) (by simp) ?_
  · intro u hu
    simp at hu; subst hu; rfl
  intro g cap w' hown' hgrow hg _
  exact h g cap w' (by rw [List.map_append]; exact hown') hgrow hg
theorem rep_next (k : Nat) (z : Int) : List.replicate k z ++ [z] = List.replicate (k + 1) z := (List.replicate_succ' (n := k) (a := z)).symm

set_option maxRecDepth 100000 in
set_option maxHeartbeats 2000000 in
theorem lawLeastFeed (A : Option Addr) (n c : Nat) (bs : List Int) (w : World) (hn : n ≤ c ∧ c ≤ 9223372036854775807) (hb : BytesAt w A n bs) :
    Calls Tryd.prog 10 #[.slice A n c] w (RV w (.bool true)) := by
  obtain ⟨hn1, hn2⟩ := hn
  by_cases hbig : 1048576 < n
  · have hd : decide (1048576 < n) = true := by simpa using hbig
    go_enter Tryd.func10, Tryd.ntmps10
    go_wp2
    go_ret
    exact ⟨rfl, Below.refl _ _⟩
  have hd : decide (1048576 < n) = false := by simpa using hbig
  have HB := Lib.hid hb
  clear hb
  have hbs : ∀ w : World, (Instr.buildSlice 29 0 #[]).run Tryd.prog w = .ok (.slice (some ⟨w.heap.size, 0, none⟩) 0 0) (w.alloc (.cells #[] 3)) := fun _ => by kernel_rfl
  go_enter Tryd.func10, Tryd.ntmps10
  go_wp2_with fail
  refine (drawLeastFeed_any w A n c bs ⟨hn1, hn2⟩ HB.out).mono ?_; rintro e w1 ⟨g, m, d, ns, rfl, hN, hm, hb1⟩
  clear HB hn1 hn2 hbig hd
  go_wp2_with fail
  refine (leastFeed_any _ m d ns w1 (by omega) hN).mono ?_; rintro e w2 ⟨r, rfl, hp, hb2⟩
  have HP := Lib.hid hp
  clear hp
  have hB2 := below_next hb1 hb2
  have hN2 := hN.below hb2
  clear hN hb1 hb2
  go_wp2_with fail
  refine (specLeastFeed_any _ m d ns w2 (by omega) hN2).mono ?_; rintro e w3 ⟨r2, rfl, hp2, hb3⟩
  obtain rfl := FirstIs.same HP.out hp2
  clear hp2
  have hB3 := below_next hB2 hb3
  have hN3 := hN2.below hb3
  clear hN2 hB2 hb3
  have hxx : (r != r) = false := by simp
  have hrb : -1 ≤ r ∧ r ≤ 30 := by rcases HP.out with ⟨k, hk, rfl, _⟩ | ⟨rfl, _⟩ <;> omega
  obtain ⟨f, hf⟩ : ∃ f, Hid (f = if 0 > r then 0 else r) := ⟨_, rfl⟩
  have hmax : ∀ (ts : Array TypeId) (ty : TypeId) (w : World), (Builtin.max_ ts ty #[.int .i64 r, .int .i64 0]).run Tryd.prog w = .ok (.int .i64 f) w := by
    intro ts ty w; rw [run_max_int2, hf.out]
  have hsub : IntKind.i64.wrap (r - 1) = r - 1 := IntWalk.i64_in _ (by omega)
  have hE1 := own0 (base := w3.heap.size) (w1 := w3) (Nat.le_refl _)
  have hE2 := own0 (base := w3.heap.size) (w1 := w3.alloc (.cells #[] 3)) (by simp)
  rw [show (w3.alloc (.cells #[] 3)).heap.size = w3.heap.size + 1 by simp] at hE2
  have hEB : Below w3.heap.size w3 ((w3.alloc (.cells #[] 3)).alloc (.cells #[] 3)) := ((Below.refl _ _).alloc (Nat.le_refl _) _).alloc (by simp) _
  go_wp2_with fail
  clear hbs
  go_loopw [5, 6, 7] (fun vf vl i wr => ∃ (k g1 c1 g2 c2 : Nat), k ≤ 6 ∧ i = .int .i64 k ∧ vf = .slice (some ⟨g1, 0, none⟩) k c1 ∧ vl = .slice (some ⟨g2, 0, none⟩) k c2 ∧ g1 ≠ g2 ∧ wr.ownsRow w3.heap.size 3 1 (.slice (some ⟨g1, 0, none⟩) k c1) k ((List.replicate k f).map (Value.int .i64)) ∧
      wr.ownsRow w3.heap.size 3 1 (.slice (some ⟨g2, 0, none⟩) k c2) k ((List.replicate k (r - 1)).map (Value.int .i64)) ∧ Below w3.heap.size w3 wr) (fun _ _ i _ => 6 - (intOf i).toNat)
  case atStart => exact ⟨0, w3.heap.size, 0, w3.heap.size + 1, 0, by omega, rfl, rfl, rfl, by omega, hE1.alloc _, hE2, hEB⟩
  case round =>
    obtain ⟨k, g1, c1, g2, c2, hk, rfl, rfl, rfl, hne, hO1, hO2, hbw⟩ := hrel
    clear hE1 hE2 hEB
    have hl1 := (hO1.lt g1 rfl).2
    have hl2 := (hO2.lt g2 rfl).2
    by_cases hlt : k < 6
    · go_wp2_with (first
        | (at_builtin
           refine wpList_moreG (base := w3.heap.size) rfl (.tmp 25) (.tmp 28) rfl hbw.size hO1 f rfl rfl (by omega) ?_; intro g1' c1' w4 hO1' hg4 hw4
           have hO2' := (hO2.alloc (.cells #[.int .i64 f] 3)).kept hg4 (.inr (by simp [Value.ownBlock]; omega))
           have hb4 := (hbw.alloc hbw.size (.cells #[.int .i64 f] 3)).grown hg4 (by simp; have := hbw.size; omega) (fun q hq => (hO1.lt q hq).1)
           have hne4 : g1' ≠ g2 := by
             rcases hw4 with h | h
             · simp [Value.ownBlock] at h; omega
             · omega
           have hl2' := (hO2'.lt g2 rfl).2
           have hl1' := (hO1'.lt g1' rfl).2
           clear hO1 hO2 hg4 hw4 hne hl1 hl2 hbw)
        | (at_builtin
           refine wpList_moreG (base := w3.heap.size) rfl (.tmp 30) (.tmp 33) rfl hb4.size hO2' (r - 1) rfl rfl (by omega) ?_; intro g2' c2' w5 hO2'' hg5 hw5
           have hO1'' := (hO1'.alloc (.cells #[.int .i64 (r - 1)] 3)).kept hg5 (.inr (by simp [Value.ownBlock]; omega))
           have hb5 := (hb4.alloc hb4.size (.cells #[.int .i64 (r - 1)] 3)).grown hg5 (by simp; have := hb4.size; omega) (fun q hq => (hO2'.lt q hq).1)
           have hne5 : g1' ≠ g2' := by
             rcases hw5 with h | h
             · simp [Value.ownBlock] at h; omega
             · omega
           clear hO1' hO2' hg5 hw5 hne4 hl1' hl2' hb4))
      go_wp2
      go_roundw
      case rel => exact ⟨k + 1, g1', c1', g2', c2', by omega, by go_num, rfl, rfl, hne5, by rw [← rep_next]; exact hO1'', by rw [← rep_next]; exact hO2'', hb5⟩
      case measure => simp [intOf]; omega
    · obtain rfl : k = 6 := by omega
      have hN4 := hN3.below hbw
      have hB4 := below_next hB3 hbw
      have hI1 := (OwnAt.farInts hO1).ints
      have hI2 := (OwnAt.farInts hO2).ints
      clear hO1 hO2 hN3 hB3 hbw hlt
      by_cases hr0 : r < 0
      · obtain rfl : r = -1 := by omega
        go_wp2_with fail
        refine (alive_any _).mono ?_; rintro e w4 ⟨rfl, hb4⟩
        go_wp2
        go_ret
        exact ⟨rfl, below_next hB4 hb4⟩
      · obtain ⟨hz, hV, -, -, he1, he2⟩ := least_zero HP.out hr0
        have hfr : f = r := by rw [hf.out, if_neg (by omega)]
        have HE1 := Lib.hid he1
        have HL := Lib.hid (NeedsAt.len hN4)
        rw [HL.out] at hz
        by_cases h0 : r = 0
        · have hm0 : m = 0 := hz.1 h0
          subst h0
          subst hm0
          clear he1 he2 hz hV
          go_wp2_with fail
          refine (enough_any _ 0 d ns _ 6 c1 (List.replicate 6 f) _ (by omega) hN4 (by omega) hI1).mono ?_; rintro e w5 ⟨rfl, hb5⟩
          rw [hfr, HE1.out]
          go_wp2
          go_ret
          exact ⟨rfl, below_next hB4 hb5⟩
        · have hm0 : ((m : Int) == 0) = false := by simp; omega
          have hr1 : (r == 0) = false := by simpa using h0
          have HE2 := Lib.hid (he2 h0)
          clear he1 he2 hz hV h0
          go_wp2_with fail
          refine (enough_any _ m d ns _ 6 c1 (List.replicate 6 f) _ (by omega) hN4 (by omega) hI1).mono ?_; rintro e w5 ⟨rfl, hb5⟩
          rw [hfr, HE1.out]
          go_wp2_with fail
          refine (enough_any _ m d ns _ 6 c2 (List.replicate 6 (r - 1)) _ (by omega) (hN4.below hb5) (by omega) (hI2.below hb5)).mono ?_; rintro e w6 ⟨rfl, hb6⟩
          rw [HE2.out]
          go_wp2
          go_ret
          exact ⟨rfl, below_next (below_next hB4 hb5) hb6⟩
end Go.Proofs.YtobkljhbmeglpaaDoor
