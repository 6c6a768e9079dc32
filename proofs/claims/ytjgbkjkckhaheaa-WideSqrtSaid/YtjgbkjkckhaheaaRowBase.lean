/- What every row's proof uses: opened and shut arguments. -/
import Derived.Test.YtjgbkjkckhaheaaRows
import Derived.ProofKit
import Derived.Lib.SmallJoins
import Derived.Test.YtjgbkjkckhaheaaBase
namespace Go.Proofs.Ytjgbkjkckhaheaa
open Go.ChangeShapes Go.WideShapes Go.ChangeAt Go.RowKit Go.Joins

theorem Try.own : ownKnob Try.prog.godebug = none := by kernel_rfl
theorem cellsU : Try.prog.cellsOf 24 = 2 := by kernel_rfl
theorem u64_of_wf {x : Int} (h : (Lit.int .u64 x).wf = true) : IsW x := by
  simp [Lit.wf, IntKind.min, IntKind.max, IntKind.signed, IntKind.bits] at h
  exact ⟨by omega, by omega⟩
theorem i64_of_wf {x : Int} (h : (Lit.int .i64 x).wf = true) : -9223372036854775808 ≤ x ∧ x ≤ 9223372036854775807 := by
  simp [Lit.wf, IntKind.min, IntKind.max, IntKind.signed, IntKind.bits] at h
  exact ⟨by omega, by omega⟩
end Go.Proofs.Ytjgbkjkckhaheaa
