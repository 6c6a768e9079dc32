/- Walks of package ref01: Of, Mul, Add, Compare, Sub. No condition but the words' own range. -/
import Derived.Test.YtdioaiepkhepaaaDoorWideAB
namespace Go.Proofs.YtdioaiepkhepaaaDoor
set_option maxRecDepth 100000
open Go.RowKit







end Go.Proofs.YtdioaiepkhepaaaDoor
