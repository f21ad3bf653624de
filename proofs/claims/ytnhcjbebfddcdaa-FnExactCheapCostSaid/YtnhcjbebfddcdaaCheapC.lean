/-
  CheapCost of both.
-/
import Derived.Test.YtnhcjbebfddcdaaCheapS
import Derived.Lib.SliceRun
namespace Go.Proofs.Ytnhcjbebfddcdaa
open Go.ChangeShapes Go.WideShapes Go.ChangeAt Go.RowKit

theorem cheap_none {ns : List N4} {feed p : List Int} (h : cheapB ns feed p = false) : costR (cheapL ns feed p) p = -1 := by
  rw [cheapL_no h]; exact costR_no (.inl (by decide))

set_option maxHeartbeats 2000000 in
theorem cheapCost_any (A : Option Addr) (n c : Nat) (ns : List N4) (F : Option Addr) (m fc : Nat) (feed : List Int) (P : Option Addr) (l pc : Nat) (p : List Int) (w : World)
    (hn : n ≤ 9223372036854775807) (hx : NeedsAt w A n ns) (hm : m ≤ 9223372036854775807) (hf : IntsAt w F m feed) (hl : l ≤ 9223372036854775807) (hp : IntsAt w P l p) :
    Calls Try.prog 49 #[.slice A n c, .slice F m fc, .slice P l pc] w (RV w (.int .i64 (costR (cheapL ns feed p) p))) := by
  have heq : ∀ (w : World) (a : Option Addr) (n c : Nat), (binOp .eql 22 (.slice a n c) (.slice none 0 0)).run Try.prog w = .ok (.bool a.isNone) w := fun w a n c => Lib.run_eql_slice_nil w _ 3 a n c 0 0 (by kernel_rfl)
  go_enter Try.func49, Try.ntmps49
  go_wp2_with fail
  refine (cheapLoads_any A n c ns F m fc feed P l pc p _ hn hx hm hf hl hp).mono ?_; rintro e w1 ⟨A1, n1, c1, rfl, ho, hs, hb⟩
  cases A1 with
  | none =>
    have HZ := Lib.hid (cheap_none (ns := ns) (feed := feed) (p := p) (by rw [← hs]; rfl))
    clear hs
    go_wp2
    go_ret
    exact ⟨ret_int HZ.out.symm, hb⟩
  | some a =>
    have hl1 := ho.len
    have hl6 := cheapL_len (ns := ns) (feed := feed) (p := p) (by rw [← hs]; rfl)
    have hn1 : n1 ≤ 9223372036854775807 := by simp [ic] at hl1; omega
    clear hs hl1 hl6
    go_wp2_with fail
    refine (loadCost_any (some a) n1 c1 (cheapL ns feed p) P l pc p _ hn1 ho.slAt hl (hp.below hb)).mono ?_; rintro e w2 ⟨rfl, rfl⟩
    go_wp2
    go_ret
    exact ⟨rfl, hb⟩

set_option maxHeartbeats 2000000 in
theorem specCheapCost_any (A : Option Addr) (n c : Nat) (ns : List N4) (F : Option Addr) (m fc : Nat) (feed : List Int) (P : Option Addr) (l pc : Nat) (p : List Int) (w : World)
    (hn : n ≤ 9223372036854775807) (hx : NeedsAt w A n ns) (hm : m ≤ 9223372036854775807) (hf : IntsAt w F m feed) (hl : l ≤ 9223372036854775807) (hp : IntsAt w P l p) :
    Calls Try.prog 48 #[.slice A n c, .slice F m fc, .slice P l pc] w (RV w (.int .i64 (costR (cheapL ns feed p) p))) := by
  go_enter Try.func48, Try.ntmps48
  go_wp2_with fail
  refine (specCheapLoads_any A n c ns F m fc feed P l pc p _ hn hx hm hf hl hp).mono ?_; rintro e w1 ⟨A1, n1, c1, rfl, ho, hb⟩
  have hl1 := ho.len
  have hn1 : n1 ≤ 9223372036854775807 := by
    simp [ic] at hl1
    cases hc : cheapB ns feed p
    · rw [cheapL_no hc] at hl1; simp at hl1; omega
    · rw [cheapL_len hc] at hl1; omega
  clear hl1
  go_wp2_with fail
  refine (specLoadCost_any A1 n1 c1 (cheapL ns feed p) P l pc p _ hn1 ho.slAt hl (hp.below hb)).mono ?_; rintro e w2 ⟨rfl, hb2⟩
  go_wp2
  go_ret
  exact ⟨rfl, below_next hb hb2⟩
end Go.Proofs.Ytnhcjbebfddcdaa
