/- The statements of chapter 03, their checks Printed by a program (gen/Gen.lean); what each function does is told by the evaluator, and the kernel checks it. No condition. -/
import Derived.Test.YtfjhhadmncjdiaaGreatDoorFloorE
import Derived.KernelRfl
namespace Go.Proofs.YtfjhhadmncjdiaaGreatDoor
open Go.RowKit

/-! compositor/compositorref01.HalfExact -/
def A_ref01_HalfExact : List PS := [.agg [.i .u64, .i .u64, .i .u64, .i .u64, .i .u64]]
def R_ref01_HalfExact : RS := .tup [.c (.i .u64), .c (.b)]
noncomputable def L_ref01_HalfExact (vs : List Value) : List Value := (evF Tryz.prog [S_ref01_times, S_ref01_FloorExact] 1000 61 (inL A_ref01_HalfExact vs)).outL
noncomputable def S_ref01_HalfExact : Sum := ⟨61, L_ref01_HalfExact, A_ref01_HalfExact, R_ref01_HalfExact⟩
theorem ok_ref01_HalfExact : SumOK Tryz.prog Inv S_ref01_HalfExact := sumOK_ev inv_stays (allOK_cons ok_ref01_times (allOK_cons ok_ref01_FloorExact allOK_nil)) 1000 61 A_ref01_HalfExact R_ref01_HalfExact (fun _ => by kernel_rfl)
noncomputable def F_ref01_HalfExact (p0 : Int) (p1 : Int) (p2 : Int) (p3 : Int) (p4 : Int) : Int × Bool := (num ((L_ref01_HalfExact [.int .u64 p0, .int .u64 p1, .int .u64 p2, .int .u64 p3, .int .u64 p4]).getD 0 undef), tru ((L_ref01_HalfExact [.int .u64 p0, .int .u64 p1, .int .u64 p2, .int .u64 p3, .int .u64 p4]).getD 1 undef))
theorem F_ref01_HalfExact_eq (p0 : Int) (p1 : Int) (p2 : Int) (p3 : Int) (p4 : Int) : F_ref01_HalfExact p0 p1 p2 p3 p4 =
    let x0 := F_ref01_FloorExact p0 p1 p2 p3 p4
    bif (!x0.2) then
      ((0, false))
    else
      (let x1 := F_ref01_times p0 p1 p2 p3 p4 true (IntKind.u64.wrap ((IntKind.u64.wrap (2 * x0.1)) + 1))
      bif (decide (x1 ≥ 0)) then
        (bif (decide ((IntKind.u64.wrap (x0.1 + 1)) ≥ 9223372036854775808)) then
          ((0, false))
        else
          (((IntKind.u64.wrap (x0.1 + 1)), true)))
      else
        (bif (decide (x0.1 ≥ 9223372036854775808)) then
          ((0, false))
        else
          ((x0.1, true)))) :=
  spell (fun l => (num ((l).getD 0 undef), tru ((l).getD 1 undef))) (evF Tryz.prog [S_ref01_times, S_ref01_FloorExact] 1000 61 (inL A_ref01_HalfExact [.int .u64 p0, .int .u64 p1, .int .u64 p2, .int .u64 p3, .int .u64 p4])) (by kernel_rfl) (by kernel_rfl)







end Go.Proofs.YtfjhhadmncjdiaaGreatDoor
