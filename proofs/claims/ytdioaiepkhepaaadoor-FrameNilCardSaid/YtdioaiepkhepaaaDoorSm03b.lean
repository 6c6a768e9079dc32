/- The statements of chapter 03, their checks Printed by a program (gen/Gen.lean); what each function does is told by the evaluator, and the kernel checks it. No condition. -/
import Derived.Test.YtdioaiepkhepaaaDoorFloorE
import Derived.KernelRfl
namespace Go.Proofs.YtdioaiepkhepaaaDoor
open Go.RowKit








end Go.Proofs.YtdioaiepkhepaaaDoor
