/- What every row's proof uses: opened arguments. -/
import Derived.Test.YtfjhhadmncjdiaaGreatDoorRows
import Derived.ProofKit
import Derived.OpenShut
import Derived.Lib.SmallJoins
import Derived.Test.YtfjhhadmncjdiaaGreatDoorGround
namespace Go.Proofs.YtfjhhadmncjdiaaGreatDoor
set_option maxRecDepth 100000
open Go.ChangeShapes Go.WideShapes Go.ChangeAt Go.RowKit Go.Joins

theorem Tryz.own : ownKnob Tryz.prog.godebug = none := by kernel_rfl
theorem Tryz.laidOut : laidOutB Tryz.prog = true := by kernel_rfl
theorem u64_of_wf {x : Int} (h : (Lit.int .u64 x).wf = true) : IsW x := by
  simp [Lit.wf, IntKind.min, IntKind.max, IntKind.signed, IntKind.bits] at h
  exact ⟨by omega, by omega⟩
theorem i64_of_wf {x : Int} (h : (Lit.int .i64 x).wf = true) : -9223372036854775808 ≤ x ∧ x ≤ 9223372036854775807 := by
  simp [Lit.wf, IntKind.min, IntKind.max, IntKind.signed, IntKind.bits] at h
  exact ⟨by omega, by omega⟩
section
variable {H : Type} {enc : TypeId × Value → H} {w : World} {base b0 : Nat} {spare : Nat → Bool} {held : Bool} {r : Reach} {v : Value} {d : DataW H} {p : List MemPlace}
theorem cellsU : Tryz.prog.cellsOf 70 = 2 := by kernel_rfl
theorem open_U (hv : Value.okWide Tryz.prog w r b0 70 v) (h : DataW.Trod enc Tryz.prog w base spare held 70 v d p) :
    ∃ h l : Int, v = .agg #[.int .u64 h, .int .u64 l] ∧ IsW h ∧ IsW l := by
  obtain ⟨c0, c1, y0, y1, m, rfl, rfl, rfl, hy0, hy1⟩ := open_agg2 Tryz.underlying70 (by kernel_rfl) cellsU hv h
  obtain ⟨ah, e0, rfl, w0⟩ := DataW.trod_int Tryz.underlying68 hy0
  obtain ⟨al, e1, rfl, w1⟩ := DataW.trod_int Tryz.underlying68 hy1
  simp at e0 e1
  subst e0 e1
  exact ⟨ah, al, rfl, u64_of_wf w0, u64_of_wf w1⟩
end
end Go.Proofs.YtfjhhadmncjdiaaGreatDoor
