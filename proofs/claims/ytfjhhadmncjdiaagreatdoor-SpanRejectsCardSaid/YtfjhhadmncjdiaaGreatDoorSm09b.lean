/- The statements of chapter 09, their checks. Printed by a program (gen/Gen.lean); what each function does is told by the evaluator, and the kernel checks it. No condition. -/
import Derived.Test.YtfjhhadmncjdiaaGreatDoorSm09
import Derived.KernelRfl
namespace Go.Proofs.YtfjhhadmncjdiaaGreatDoor
open Go.RowKit






end Go.Proofs.YtfjhhadmncjdiaaGreatDoor
