/- From an evaluated statement to its call. -/
import Derived.Test.YtdioaiepkhepaaaGreatDoorPlain
import Derived.Test.YtdioaiepkhepaaaGreatDoorFloorE
namespace Go.Proofs.YtdioaiepkhepaaaGreatDoor
open Go.RowKit
end Go.Proofs.YtdioaiepkhepaaaGreatDoor
