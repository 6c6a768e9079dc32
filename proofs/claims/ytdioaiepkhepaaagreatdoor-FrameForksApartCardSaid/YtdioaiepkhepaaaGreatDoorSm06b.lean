/- The statements of chapter 06, their checks Printed by a program (gen/Gen.lean); what each function does is told by the evaluator, and the kernel checks it. No condition. -/
import Derived.Test.YtdioaiepkhepaaaGreatDoorNames
import Derived.Test.YtdioaiepkhepaaaGreatDoorLaw03
import Derived.KernelRfl
namespace Go.Proofs.YtdioaiepkhepaaaGreatDoor
open Go.RowKit
end Go.Proofs.YtdioaiepkhepaaaGreatDoor
