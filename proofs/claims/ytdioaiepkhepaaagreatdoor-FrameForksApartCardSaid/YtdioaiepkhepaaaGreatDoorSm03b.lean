/- The statements of chapter 03, their checks Printed by a program (gen/Gen.lean); what each function does is told by the evaluator, and the kernel checks it. No condition. -/
import Derived.Test.YtdioaiepkhepaaaGreatDoorFloorE
import Derived.KernelRfl
namespace Go.Proofs.YtdioaiepkhepaaaGreatDoor
open Go.RowKit
def A_r1_HalfExact : List PS := [.agg [.i .u64, .i .u64, .i .u64, .i .u64, .i .u64]]
def R_r1_HalfExact : RS := .tup [.c (.i .u64), .c (.b)]
noncomputable def L_r1_HalfExact (vs : List Value) : List Value := (evF Tryz.prog [S_r1_times, S_r1_FloorExact] 1000 85 (inL A_r1_HalfExact vs)).outL
noncomputable def S_r1_HalfExact : Sum := ⟨85, L_r1_HalfExact, A_r1_HalfExact, R_r1_HalfExact⟩
theorem ok_r1_HalfExact : SumOK Tryz.prog Inv S_r1_HalfExact := sumOK_ev inv_stays (allOK_cons ok_r1_times (allOK_cons ok_r1_FloorExact allOK_nil)) 1000 85 A_r1_HalfExact R_r1_HalfExact (fun _ => by kernel_rfl)
noncomputable def F_r1_HalfExact (p0 p1 p2 p3 p4 : Int) : Int × Bool := (fun l => (num (l.getD 0 undef), tru (l.getD 1 undef))) (L_r1_HalfExact [.int .u64 p0, .int .u64 p1, .int .u64 p2, .int .u64 p3, .int .u64 p4])
theorem F_r1_HalfExact_eq (p0 p1 p2 p3 p4 : Int) : F_r1_HalfExact p0 p1 p2 p3 p4 =
 let x0 := F_r1_FloorExact p0 p1 p2 p3 p4
 bif (!x0.2) then
 ((0, false))
 else
 (let x1 := F_r1_times p0 p1 p2 p3 p4 true (IntKind.u64.wrap ((IntKind.u64.wrap (2 * x0.1)) + 1))
 bif (decide (x1 ≥ 0)) then
 (bif (decide ((IntKind.u64.wrap (x0.1 + 1)) ≥ 9223372036854775808)) then
 ((0, false))
 else
 (((IntKind.u64.wrap (x0.1 + 1)), true)))
 else
 (bif (decide (x0.1 ≥ 9223372036854775808)) then
 ((0, false))
 else
 ((x0.1, true)))) :=
 spell (fun l => (num (l.getD 0 undef), tru (l.getD 1 undef))) (evF Tryz.prog [S_r1_times, S_r1_FloorExact] 1000 85 (inL A_r1_HalfExact [.int .u64 p0, .int .u64 p1, .int .u64 p2, .int .u64 p3, .int .u64 p4])) (by kernel_rfl) (by kernel_rfl)
end Go.Proofs.YtdioaiepkhepaaaGreatDoor
