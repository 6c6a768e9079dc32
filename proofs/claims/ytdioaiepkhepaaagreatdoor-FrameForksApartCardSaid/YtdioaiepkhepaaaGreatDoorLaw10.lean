/- The statements of chapter 10 that reach no laid variable, as plain laws. -/
import Derived.Test.YtdioaiepkhepaaaGreatDoorMath10
namespace Go.Proofs.YtdioaiepkhepaaaGreatDoor
open Go.RowKit
theorem gSampleM (x : Int) {m : Int} (h0 : 0 ≤ m) (h1 : m ≤ 65535) : 0 ≤ F_gen_Sample x m ∧ F_gen_Sample x m ≤ m := gSample_le x ⟨h0, h1⟩
end Go.Proofs.YtdioaiepkhepaaaGreatDoor
