/-
  l1In of the reference: is a number in a range?
-/
import Derived.Test.YtdebjcempkgeaaaDoorLib
namespace Go.Proofs.YtdebjcempkgeaaaDoor
open Go.ChangeShapes Go.WideShapes Go.ChangeAt Go.RowKit

set_option maxHeartbeats 1000000 in
theorem l1In_any (x l g : Int) (w : World) :
    Calls Tryd.prog 23 #[.int .i64 x, .int .i64 l, .int .i64 g] w (RS w (.bool (decide (l ≤ x) && decide (x ≤ g)))) := by
  go_enter Tryd.func23, Tryd.ntmps23
  go_wp2
  all_goals
    go_ret
    refine ⟨ret_bool ?_, rfl⟩
    simp; try omega

end Go.Proofs.YtdebjcempkgeaaaDoor
