/-
  GiveValid of the program and of the reference.
-/
import Derived.Test.YtikhoekdoocjpaaGive
import Derived.Test.YtikhoekdoocjpaaPlFor
import Derived.Test.YtikhoekdoocjpaaCars
import Derived.Test.YtikhoekdoocjpaaHas
namespace Go.Proofs.Ytikhoekdoocjpaa
open Go.ChangeShapes Go.WideShapes Go.ChangeAt Go.RowKit

theorem fits_yes (x : C4) (y : P3) (w : World) (h : fitP x y = true) :
    Calls Try.prog 33 #[.agg #[.int .i64 x.f, .int .i64 x.t, .int .i64 x.r, .int .i64 x.u], .agg #[.int .i64 y.f, .int .i64 y.t, .int .i64 y.r]] w (RV w (.bool true)) := by rw [← h]; exact fits_any _ _ _ _ _ _ _ _
theorem fits_no (x : C4) (y : P3) (w : World) (h : fitP x y = false) :
    Calls Try.prog 33 #[.agg #[.int .i64 x.f, .int .i64 x.t, .int .i64 x.r, .int .i64 x.u], .agg #[.int .i64 y.f, .int .i64 y.t, .int .i64 y.r]] w (RV w (.bool false)) := by rw [← h]; exact fits_any _ _ _ _ _ _ _ _

end Go.Proofs.Ytikhoekdoocjpaa
