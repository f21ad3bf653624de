/-
  l1In of the reference: is a number in a range?
-/
import Derived.Test.YtdebjcempkgeaaaGreatDoorLib
namespace Go.Proofs.YtdebjcempkgeaaaGreatDoor
open Go.ChangeShapes Go.WideShapes Go.ChangeAt Go.RowKit

set_option maxHeartbeats 1000000 in
theorem l1In_any (x l g : Int) (w : World) :
    Calls Tryz.prog 39 #[.int .i64 x, .int .i64 l, .int .i64 g] w (RS w (.bool (decide (l ≤ x) && decide (x ≤ g)))) := by
  go_enter Tryz.func39, Tryz.ntmps39
  go_wp2
  all_goals
    go_ret
    refine ⟨ret_bool ?_, rfl⟩
    simp; try omega

end Go.Proofs.YtdebjcempkgeaaaGreatDoor
