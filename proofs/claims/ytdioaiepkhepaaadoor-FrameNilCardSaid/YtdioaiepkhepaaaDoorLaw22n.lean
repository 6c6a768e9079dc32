/- The statement FrameNil of chapter 22, as a plain law. -/
import Derived.Test.YtdioaiepkhepaaaDoorSm22n
import Derived.Test.YtdioaiepkhepaaaDoorLaw22
namespace Go.Proofs.YtdioaiepkhepaaaDoor
set_option maxRecDepth 100000
open Go.RowKit

theorem frameNil (p0 p1 p2 p3 p4 p5 p6 p7 p8 p9 : Int) (p10 p11 : Bool) (p12 p13 p14 p15 p16 p17 : Int) : F_law22_FrameNil p0 p1 p2 p3 p4 p5 p6 p7 p8 p9 p10 p11 p12 p13 p14 p15 p16 p17 = true := by
  rw [F_law22_FrameNil_eq, awake22]
  rfl
end Go.Proofs.YtdioaiepkhepaaaDoor
