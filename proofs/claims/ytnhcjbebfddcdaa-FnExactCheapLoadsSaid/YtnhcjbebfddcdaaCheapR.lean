/-
  CheapLoads of both, as the statement takes them: a list of the call's own.
-/
import Derived.Test.YtnhcjbebfddcdaaCheapS
import Derived.Test.YtnhcjbebfddcdaaMarks
namespace Go.Proofs.Ytnhcjbebfddcdaa
open Go.ChangeShapes Go.WideShapes Go.ChangeAt Go.RowKit

theorem cheapL_short (ns : List N4) (feed p : List Int) : (cheapL ns feed p).length ≤ 1048576 := by
  cases hc : cheapB ns feed p
  · rw [cheapL_no hc]; simp
  · rw [cheapL_len hc]; omega
theorem cheapLoads_own (A : Option Addr) (n c : Nat) (ns : List N4) (F : Option Addr) (m fc : Nat) (feed : List Int) (P : Option Addr) (l pc : Nat) (p : List Int) (w : World)
    (hn : n ≤ 9223372036854775807) (hx : NeedsAt w A n ns) (hm : m ≤ 9223372036854775807) (hf : IntsAt w F m feed) (hl : l ≤ 9223372036854775807) (hp : IntsAt w P l p) :
    Calls Try.prog 44 #[.slice A n c, .slice F m fc, .slice P l pc] w (OwnR w (cheapL ns feed p)) :=
  (cheapLoads_any A n c ns F m fc feed P l pc p w hn hx hm hf hl hp).mono fun e w' ⟨A', n', c', he, ho, _, hb⟩ => ⟨A', n', c', he, by have := ho.len; simpa [ic] using this.symm, ho, hb⟩
theorem specCheapLoads_own (A : Option Addr) (n c : Nat) (ns : List N4) (F : Option Addr) (m fc : Nat) (feed : List Int) (P : Option Addr) (l pc : Nat) (p : List Int) (w : World)
    (hn : n ≤ 9223372036854775807) (hx : NeedsAt w A n ns) (hm : m ≤ 9223372036854775807) (hf : IntsAt w F m feed) (hl : l ≤ 9223372036854775807) (hp : IntsAt w P l p) :
    Calls Try.prog 43 #[.slice A n c, .slice F m fc, .slice P l pc] w (OwnR w (cheapL ns feed p)) :=
  (specCheapLoads_any A n c ns F m fc feed P l pc p w hn hx hm hf hl hp).mono fun e w' ⟨A', n', c', he, ho, hb⟩ => ⟨A', n', c', he, by have := ho.len; simpa [ic] using this.symm, ho, hb⟩
end Go.Proofs.Ytnhcjbebfddcdaa
