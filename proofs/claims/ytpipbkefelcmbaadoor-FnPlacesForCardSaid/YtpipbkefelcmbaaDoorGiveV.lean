/-
  GiveValid of the program and of the reference.
-/
import Derived.Test.YtpipbkefelcmbaaDoorGive
import Derived.Test.YtpipbkefelcmbaaDoorPlFor
import Derived.Test.YtpipbkefelcmbaaDoorCars
import Derived.Test.YtpipbkefelcmbaaDoorHas
namespace Go.Proofs.YtpipbkefelcmbaaDoor
open Go.ChangeShapes Go.WideShapes Go.ChangeAt Go.RowKit

theorem fits_yes (x : C4) (y : P3) (w : World) (h : fitP x y = true) :
    Calls Tryd.prog 12 #[.agg #[.int .i64 x.f, .int .i64 x.t, .int .i64 x.r, .int .i64 x.u], .agg #[.int .i64 y.f, .int .i64 y.t, .int .i64 y.r]] w (RV w (.bool true)) := by rw [← h]; exact fits_any _ _ _ _ _ _ _ _
theorem fits_no (x : C4) (y : P3) (w : World) (h : fitP x y = false) :
    Calls Tryd.prog 12 #[.agg #[.int .i64 x.f, .int .i64 x.t, .int .i64 x.r, .int .i64 x.u], .agg #[.int .i64 y.f, .int .i64 y.t, .int .i64 y.r]] w (RV w (.bool false)) := by rw [← h]; exact fits_any _ _ _ _ _ _ _ _

end Go.Proofs.YtpipbkefelcmbaaDoor
