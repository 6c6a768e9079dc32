/- Blend terms, the program's and the reference's. Printed by a program (gen/Gen.lean); what each function does is told by the evaluator, and the kernel checks it. No condition. -/
import Derived.Test.YtdioaiepkhepaaaGreatDoorSm03b
import Derived.KernelRfl
namespace Go.Proofs.YtdioaiepkhepaaaGreatDoor
open Go.RowKit
def A_gen_Max : List PS := [.c (.i .i64)]
def R_gen_Max : RS := .one (.c (.i .u16))
noncomputable def L_gen_Max (vs : List Value) : List Value := (evF Tryz.prog [S_gen_Mod] 1000 6 (inL A_gen_Max vs)).outL
noncomputable def S_gen_Max : Sum := ⟨6, L_gen_Max, A_gen_Max, R_gen_Max⟩
theorem ok_gen_Max : SumOK Tryz.prog Inv S_gen_Max := sumOK_ev inv_stays (allOK_cons ok_gen_Mod allOK_nil) 1000 6 A_gen_Max R_gen_Max (fun _ => by kernel_rfl)
noncomputable def F_gen_Max (p0 : Int) : Int := (fun l => num (l.getD 0 undef)) (L_gen_Max [.int .i64 p0])
theorem F_gen_Max_eq (p0 : Int) : F_gen_Max p0 =
 let x0 := F_gen_Mod p0 3
 bif (x0 == 2) then
 (65535)
 else
 (255) :=
 spell (fun l => num (l.getD 0 undef)) (evF Tryz.prog [S_gen_Mod] 1000 6 (inL A_gen_Max [.int .i64 p0])) (by kernel_rfl) (by kernel_rfl)
def A_gen_Sample : List PS := [.c (.i .i64), .c (.i .u16)]
def R_gen_Sample : RS := .one (.c (.i .u16))
noncomputable def L_gen_Sample (vs : List Value) : List Value := (evF Tryz.prog [S_gen_Mod] 1000 22 (inL A_gen_Sample vs)).outL
noncomputable def S_gen_Sample : Sum := ⟨22, L_gen_Sample, A_gen_Sample, R_gen_Sample⟩
theorem ok_gen_Sample : SumOK Tryz.prog Inv S_gen_Sample := sumOK_ev inv_stays (allOK_cons ok_gen_Mod allOK_nil) 1000 22 A_gen_Sample R_gen_Sample (fun _ => by kernel_rfl)
noncomputable def F_gen_Sample (p0 p1 : Int) : Int := (fun l => num (l.getD 0 undef)) (L_gen_Sample [.int .i64 p0, .int .u16 p1])
theorem F_gen_Sample_eq (p0 p1 : Int) : F_gen_Sample p0 p1 =
 let x0 := F_gen_Mod p0 8
 bif (x0 == 0) then
 (0)
 else
 (bif (x0 == 1) then
 (p1)
 else
 (bif (x0 == 2) then
 (p1)
 else
 (bif (x0 == 3) then
 (let x1 := F_gen_Mod (IntKind.i64.wrap (Int.tdiv p0 8)) 2
 (IntKind.u16.wrap (IntKind.i64.wrap (Int.tdiv (IntKind.i64.wrap (p1 + x1)) 2))))
 else
 (bif (x0 == 4) then
 (let x2 := F_gen_Mod (IntKind.i64.wrap (Int.tdiv p0 8)) 4
 (IntKind.u16.wrap (if x2 < p1 then x2 else p1)))
 else
 (let x3 := F_gen_Mod (IntKind.i64.wrap (Int.tdiv p0 8)) (IntKind.i64.wrap (p1 + 1))
 (IntKind.u16.wrap x3)))))) :=
 spell (fun l => num (l.getD 0 undef)) (evF Tryz.prog [S_gen_Mod] 1000 22 (inL A_gen_Sample [.int .i64 p0, .int .u16 p1])) (by kernel_rfl) (by kernel_rfl)
def A_blend_valid : List PS := [.c (.i .i64)]
def R_blend_valid : RS := .one (.c (.b))
noncomputable def L_blend_valid (vs : List Value) : List Value := (evF Tryz.prog [] 1000 106 (inL A_blend_valid vs)).outL
noncomputable def S_blend_valid : Sum := ⟨106, L_blend_valid, A_blend_valid, R_blend_valid⟩
theorem ok_blend_valid : SumOK Tryz.prog Inv S_blend_valid := sumOK_ev inv_stays allOK_nil 1000 106 A_blend_valid R_blend_valid (fun _ => by kernel_rfl)
noncomputable def F_blend_valid (p0 : Int) : Bool := (fun l => tru (l.getD 0 undef)) (L_blend_valid [.int .i64 p0])
theorem F_blend_valid_eq (p0 : Int) : F_blend_valid p0 =
 bif (decide (p0 ≥ 1)) then
 ((decide (p0 ≤ 12)))
 else
 (false) :=
 spell (fun l => tru (l.getD 0 undef)) (evF Tryz.prog [] 1000 106 (inL A_blend_valid [.int .i64 p0])) (by kernel_rfl) (by kernel_rfl)
def A_blend_fraction : List PS := [.c (.i .u64), .c (.i .u64)]
def R_blend_fraction : RS := .one (.agg [.i .u64, .i .u64, .i .u64, .i .u64, .i .u64])
noncomputable def L_blend_fraction (vs : List Value) : List Value := (evF Tryz.prog [] 1000 121 (inL A_blend_fraction vs)).outL
noncomputable def S_blend_fraction : Sum := ⟨121, L_blend_fraction, A_blend_fraction, R_blend_fraction⟩
theorem ok_blend_fraction : SumOK Tryz.prog Inv S_blend_fraction := sumOK_ev inv_stays allOK_nil 1000 121 A_blend_fraction R_blend_fraction (fun _ => by kernel_rfl)
noncomputable def F_blend_fraction (p0 p1 : Int) : Int × Int × Int × Int × Int := (fun l => (num (l.getD 0 undef), num (l.getD 1 undef), num (l.getD 2 undef), num (l.getD 3 undef), num (l.getD 4 undef))) (L_blend_fraction [.int .u64 p0, .int .u64 p1])
theorem F_blend_fraction_eq (p0 p1 : Int) : F_blend_fraction p0 p1 =
 (0, p0, 0, 0, p1) :=
 spell (fun l => (num (l.getD 0 undef), num (l.getD 1 undef), num (l.getD 2 undef), num (l.getD 3 undef), num (l.getD 4 undef))) (evF Tryz.prog [] 1000 121 (inL A_blend_fraction [.int .u64 p0, .int .u64 p1])) (by kernel_rfl) (by kernel_rfl)
def A_blend_hard : List PS := [.c (.i .u64), .c (.i .u64), .c (.i .u64), .c (.i .u64), .c (.b)]
def R_blend_hard : RS := .one (.c (.i .u64))
noncomputable def L_blend_hard (vs : List Value) : List Value := (evF Tryz.prog [] 1000 122 (inL A_blend_hard vs)).outL
noncomputable def S_blend_hard : Sum := ⟨122, L_blend_hard, A_blend_hard, R_blend_hard⟩
theorem ok_blend_hard : SumOK Tryz.prog Inv S_blend_hard := sumOK_ev inv_stays allOK_nil 1000 122 A_blend_hard R_blend_hard (fun _ => by kernel_rfl)
noncomputable def F_blend_hard (p0 p1 p2 p3 : Int) (p4 : Bool) : Int := (fun l => num (l.getD 0 undef)) (L_blend_hard [.int .u64 p0, .int .u64 p1, .int .u64 p2, .int .u64 p3, .bool p4])
theorem F_blend_hard_eq (p0 p1 p2 p3 : Int) (p4 : Bool) : F_blend_hard p0 p1 p2 p3 p4 =
 bif p4 then
 ((IntKind.u64.wrap ((IntKind.u64.wrap (2 * p0)) * p2)))
 else
 ((IntKind.u64.wrap ((IntKind.u64.wrap (p1 * p3)) - (IntKind.u64.wrap ((IntKind.u64.wrap (2 * (IntKind.u64.wrap (p3 - p2)))) * (IntKind.u64.wrap (p1 - p0))))))) :=
 spell (fun l => num (l.getD 0 undef)) (evF Tryz.prog [] 1000 122 (inL A_blend_hard [.int .u64 p0, .int .u64 p1, .int .u64 p2, .int .u64 p3, .bool p4])) (by kernel_rfl) (by kernel_rfl)
def A_blend_dodge : List PS := [.c (.i .u64), .c (.i .u64), .c (.i .u64), .c (.i .u64)]
def R_blend_dodge : RS := .one (.agg [.i .u64, .i .u64, .i .u64, .i .u64, .i .u64])
noncomputable def L_blend_dodge (vs : List Value) : List Value := (evF Tryz.prog [S_blend_fraction] 1000 123 (inL A_blend_dodge vs)).outL
noncomputable def S_blend_dodge : Sum := ⟨123, L_blend_dodge, A_blend_dodge, R_blend_dodge⟩
theorem ok_blend_dodge : SumOK Tryz.prog Inv S_blend_dodge := sumOK_ev inv_stays (allOK_cons ok_blend_fraction allOK_nil) 1000 123 A_blend_dodge R_blend_dodge (fun _ => by kernel_rfl)
noncomputable def F_blend_dodge (p0 p1 p2 p3 : Int) : Int × Int × Int × Int × Int := (fun l => (num (l.getD 0 undef), num (l.getD 1 undef), num (l.getD 2 undef), num (l.getD 3 undef), num (l.getD 4 undef))) (L_blend_dodge [.int .u64 p0, .int .u64 p1, .int .u64 p2, .int .u64 p3])
theorem F_blend_dodge_eq (p0 p1 p2 p3 : Int) : F_blend_dodge p0 p1 p2 p3 =
 bif (p2 == 0) then
 (let x0 := F_blend_fraction 0 1
 (x0.1, x0.2.1, x0.2.2.1, x0.2.2.2.1, x0.2.2.2.2))
 else
 (bif (decide ((IntKind.u64.wrap (p2 * p1)) ≥ (IntKind.u64.wrap (p3 * (IntKind.u64.wrap (p1 - p0)))))) then
 (let x1 := F_blend_fraction (IntKind.u64.wrap (p1 * p3)) 1
 (x1.1, x1.2.1, x1.2.2.1, x1.2.2.2.1, x1.2.2.2.2))
 else
 (let x2 := F_blend_fraction (IntKind.u64.wrap ((IntKind.u64.wrap (p1 * p1)) * p2)) (IntKind.u64.wrap (p1 - p0))
 (x2.1, x2.2.1, x2.2.2.1, x2.2.2.2.1, x2.2.2.2.2))) :=
 spell (fun l => (num (l.getD 0 undef), num (l.getD 1 undef), num (l.getD 2 undef), num (l.getD 3 undef), num (l.getD 4 undef))) (evF Tryz.prog [S_blend_fraction] 1000 123 (inL A_blend_dodge [.int .u64 p0, .int .u64 p1, .int .u64 p2, .int .u64 p3])) (by kernel_rfl) (by kernel_rfl)
def A_blend_burn : List PS := [.c (.i .u64), .c (.i .u64), .c (.i .u64), .c (.i .u64)]
def R_blend_burn : RS := .one (.agg [.i .u64, .i .u64, .i .u64, .i .u64, .i .u64])
noncomputable def L_blend_burn (vs : List Value) : List Value := (evF Tryz.prog [S_blend_fraction] 1000 124 (inL A_blend_burn vs)).outL
noncomputable def S_blend_burn : Sum := ⟨124, L_blend_burn, A_blend_burn, R_blend_burn⟩
theorem ok_blend_burn : SumOK Tryz.prog Inv S_blend_burn := sumOK_ev inv_stays (allOK_cons ok_blend_fraction allOK_nil) 1000 124 A_blend_burn R_blend_burn (fun _ => by kernel_rfl)
noncomputable def F_blend_burn (p0 p1 p2 p3 : Int) : Int × Int × Int × Int × Int := (fun l => (num (l.getD 0 undef), num (l.getD 1 undef), num (l.getD 2 undef), num (l.getD 3 undef), num (l.getD 4 undef))) (L_blend_burn [.int .u64 p0, .int .u64 p1, .int .u64 p2, .int .u64 p3])
theorem F_blend_burn_eq (p0 p1 p2 p3 : Int) : F_blend_burn p0 p1 p2 p3 =
 bif (p2 == p3) then
 (let x0 := F_blend_fraction (IntKind.u64.wrap (p1 * p3)) 1
 (x0.1, x0.2.1, x0.2.2.1, x0.2.2.2.1, x0.2.2.2.2))
 else
 (bif (decide ((IntKind.u64.wrap ((IntKind.u64.wrap (p3 - p2)) * p1)) ≥ (IntKind.u64.wrap (p0 * p3)))) then
 (let x1 := F_blend_fraction 0 1
 (x1.1, x1.2.1, x1.2.2.1, x1.2.2.2.1, x1.2.2.2.2))
 else
 (let x2 := F_blend_fraction (IntKind.u64.wrap ((IntKind.u64.wrap ((IntKind.u64.wrap (p1 * p3)) * p0)) - (IntKind.u64.wrap ((IntKind.u64.wrap ((IntKind.u64.wrap (p3 - p2)) * p1)) * p1)))) p0
 (x2.1, x2.2.1, x2.2.2.1, x2.2.2.2.1, x2.2.2.2.2))) :=
 spell (fun l => (num (l.getD 0 undef), num (l.getD 1 undef), num (l.getD 2 undef), num (l.getD 3 undef), num (l.getD 4 undef))) (evF Tryz.prog [S_blend_fraction] 1000 124 (inL A_blend_burn [.int .u64 p0, .int .u64 p1, .int .u64 p2, .int .u64 p3])) (by kernel_rfl) (by kernel_rfl)
def A_blend_soft : List PS := [.c (.i .u64), .c (.i .u64), .c (.i .u64), .c (.i .u64)]
def R_blend_soft : RS := .one (.agg [.i .u64, .i .u64, .i .u64, .i .u64, .i .u64])
noncomputable def L_blend_soft (vs : List Value) : List Value := (evF Tryz.prog [S_blend_fraction] 1000 125 (inL A_blend_soft vs)).outL
noncomputable def S_blend_soft : Sum := ⟨125, L_blend_soft, A_blend_soft, R_blend_soft⟩
theorem ok_blend_soft : SumOK Tryz.prog Inv S_blend_soft := sumOK_ev inv_stays (allOK_cons ok_blend_fraction allOK_nil) 1000 125 A_blend_soft R_blend_soft (fun _ => by kernel_rfl)
noncomputable def F_blend_soft (p0 p1 p2 p3 : Int) : Int × Int × Int × Int × Int := (fun l => (num (l.getD 0 undef), num (l.getD 1 undef), num (l.getD 2 undef), num (l.getD 3 undef), num (l.getD 4 undef))) (L_blend_soft [.int .u64 p0, .int .u64 p1, .int .u64 p2, .int .u64 p3])
theorem F_blend_soft_eq (p0 p1 p2 p3 : Int) : F_blend_soft p0 p1 p2 p3 =
 bif (p3 == 0) then
 (let x0 := F_blend_fraction 0 1
 (x0.1, x0.2.1, x0.2.2.1, x0.2.2.2.1, x0.2.2.2.2))
 else
 (bif (decide ((IntKind.u64.wrap (2 * p0)) ≤ p1)) then
 (let x1 := F_blend_fraction (IntKind.u64.wrap ((IntKind.u64.wrap ((IntKind.u64.wrap (p2 * p1)) * p3)) - (IntKind.u64.wrap ((IntKind.u64.wrap ((IntKind.u64.wrap (p1 - (IntKind.u64.wrap (2 * p0)))) * p2)) * (IntKind.u64.wrap (p3 - p2)))))) p3
 (x1.1, x1.2.1, x1.2.2.1, x1.2.2.2.1, x1.2.2.2.2))
 else
 (bif (decide ((IntKind.u64.wrap (4 * p2)) ≤ p3)) then
 (let x2 := F_blend_fraction (IntKind.u64.wrap ((IntKind.u64.wrap ((IntKind.u64.wrap ((IntKind.u64.wrap (p2 * p1)) * p3)) * p3)) + (IntKind.u64.wrap ((IntKind.u64.wrap ((IntKind.u64.wrap ((IntKind.u64.wrap (2 * p0)) - p1)) * p2)) * (IntKind.u64.wrap ((IntKind.u64.wrap ((IntKind.u64.wrap ((IntKind.u64.wrap (16 * p2)) * p2)) + (IntKind.u64.wrap ((IntKind.u64.wrap (3 * p3)) * p3)))) - (IntKind.u64.wrap ((IntKind.u64.wrap (12 * p2)) * p3)))))))) (IntKind.u64.wrap (p3 * p3))
 (x2.1, x2.2.1, x2.2.2.1, x2.2.2.2.1, x2.2.2.2.2))
 else
 (let x3 := F_blend_fraction (IntKind.u64.wrap ((IntKind.u64.wrap (2 * p2)) * (IntKind.u64.wrap (p1 - p0)))) 1
 (x3.1, x3.2.1, (IntKind.u64.wrap ((IntKind.u64.wrap (2 * p0)) - p1)), (IntKind.u64.wrap (p2 * p3)), x3.2.2.2.2)))) :=
 spell (fun l => (num (l.getD 0 undef), num (l.getD 1 undef), num (l.getD 2 undef), num (l.getD 3 undef), num (l.getD 4 undef))) (evF Tryz.prog [S_blend_fraction] 1000 125 (inL A_blend_soft [.int .u64 p0, .int .u64 p1, .int .u64 p2, .int .u64 p3])) (by kernel_rfl) (by kernel_rfl)
def A_blend_term : List PS := [.c (.i .i64), .c (.i .u64), .c (.i .u64), .c (.i .u64), .c (.i .u64)]
def R_blend_term : RS := .one (.agg [.i .u64, .i .u64, .i .u64, .i .u64, .i .u64])
noncomputable def L_blend_term (vs : List Value) : List Value := (evF Tryz.prog [S_blend_fraction, S_blend_hard, S_blend_dodge, S_blend_burn, S_blend_soft] 1000 107 (inL A_blend_term vs)).outL
noncomputable def S_blend_term : Sum := ⟨107, L_blend_term, A_blend_term, R_blend_term⟩
theorem ok_blend_term : SumOK Tryz.prog Inv S_blend_term := sumOK_ev inv_stays (allOK_cons ok_blend_fraction (allOK_cons ok_blend_hard (allOK_cons ok_blend_dodge (allOK_cons ok_blend_burn (allOK_cons ok_blend_soft allOK_nil))))) 1000 107 A_blend_term R_blend_term (fun _ => by kernel_rfl)
noncomputable def F_blend_term (p0 p1 p2 p3 p4 : Int) : Int × Int × Int × Int × Int := (fun l => (num (l.getD 0 undef), num (l.getD 1 undef), num (l.getD 2 undef), num (l.getD 3 undef), num (l.getD 4 undef))) (L_blend_term [.int .i64 p0, .int .u64 p1, .int .u64 p2, .int .u64 p3, .int .u64 p4])
theorem F_blend_term_eq (p0 p1 p2 p3 p4 : Int) : F_blend_term p0 p1 p2 p3 p4 =
 bif (p0 == 1) then
 (let x0 := F_blend_fraction (IntKind.u64.wrap (p1 * p4)) 1
 (x0.1, x0.2.1, x0.2.2.1, x0.2.2.2.1, x0.2.2.2.2))
 else
 (bif (p0 == 2) then
 (let x1 := F_blend_fraction (IntKind.u64.wrap (p1 * p3)) 1
 (x1.1, x1.2.1, x1.2.2.1, x1.2.2.2.1, x1.2.2.2.2))
 else
 (bif (p0 == 3) then
 (let x2 := F_blend_fraction (IntKind.u64.wrap ((IntKind.u64.wrap ((IntKind.u64.wrap (p1 * p4)) + (IntKind.u64.wrap (p3 * p2)))) - (IntKind.u64.wrap (p1 * p3)))) 1
 (x2.1, x2.2.1, x2.2.2.1, x2.2.2.2.1, x2.2.2.2.2))
 else
 (bif (p0 == 4) then
 (let x3 := F_blend_hard p1 p2 p3 p4 (decide ((IntKind.u64.wrap (2 * p3)) ≤ p4))
 let x4 := F_blend_fraction x3 1
 (x4.1, x4.2.1, x4.2.2.1, x4.2.2.2.1, x4.2.2.2.2))
 else
 (bif (p0 == 5) then
 (let x5 := F_blend_fraction (if (IntKind.u64.wrap (p3 * p2)) < (IntKind.u64.wrap (p1 * p4)) then (IntKind.u64.wrap (p3 * p2)) else (IntKind.u64.wrap (p1 * p4))) 1
 (x5.1, x5.2.1, x5.2.2.1, x5.2.2.2.1, x5.2.2.2.2))
 else
 (bif (p0 == 6) then
 (let x6 := F_blend_fraction (if (IntKind.u64.wrap (p3 * p2)) > (IntKind.u64.wrap (p1 * p4)) then (IntKind.u64.wrap (p3 * p2)) else (IntKind.u64.wrap (p1 * p4))) 1
 (x6.1, x6.2.1, x6.2.2.1, x6.2.2.2.1, x6.2.2.2.2))
 else
 (bif (p0 == 7) then
 (let x7 := F_blend_dodge p1 p2 p3 p4
 (x7.1, x7.2.1, x7.2.2.1, x7.2.2.2.1, x7.2.2.2.2))
 else
 (bif (p0 == 8) then
 (let x8 := F_blend_burn p1 p2 p3 p4
 (x8.1, x8.2.1, x8.2.2.1, x8.2.2.2.1, x8.2.2.2.2))
 else
 (bif (p0 == 9) then
 (let x9 := F_blend_hard p1 p2 p3 p4 (decide ((IntKind.u64.wrap (2 * p1)) ≤ p2))
 let x10 := F_blend_fraction x9 1
 (x10.1, x10.2.1, x10.2.2.1, x10.2.2.2.1, x10.2.2.2.2))
 else
 (bif (p0 == 10) then
 (let x11 := F_blend_soft p1 p2 p3 p4
 (x11.1, x11.2.1, x11.2.2.1, x11.2.2.2.1, x11.2.2.2.2))
 else
 (bif (p0 == 11) then
 (let x12 := F_blend_fraction (IntKind.u64.wrap ((if (IntKind.u64.wrap (p3 * p2)) > (IntKind.u64.wrap (p1 * p4)) then (IntKind.u64.wrap (p3 * p2)) else (IntKind.u64.wrap (p1 * p4))) - (if (IntKind.u64.wrap (p3 * p2)) < (IntKind.u64.wrap (p1 * p4)) then (IntKind.u64.wrap (p3 * p2)) else (IntKind.u64.wrap (p1 * p4))))) 1
 (x12.1, x12.2.1, x12.2.2.1, x12.2.2.2.1, x12.2.2.2.2))
 else
 (let x13 := F_blend_fraction (IntKind.u64.wrap ((IntKind.u64.wrap ((IntKind.u64.wrap (p1 * p4)) + (IntKind.u64.wrap (p3 * p2)))) - (IntKind.u64.wrap ((IntKind.u64.wrap (2 * p1)) * p3)))) 1
 (x13.1, x13.2.1, x13.2.2.1, x13.2.2.2.1, x13.2.2.2.2)))))))))))) :=
 spell (fun l => (num (l.getD 0 undef), num (l.getD 1 undef), num (l.getD 2 undef), num (l.getD 3 undef), num (l.getD 4 undef))) (evF Tryz.prog [S_blend_fraction, S_blend_hard, S_blend_dodge, S_blend_burn, S_blend_soft] 1000 107 (inL A_blend_term [.int .i64 p0, .int .u64 p1, .int .u64 p2, .int .u64 p3, .int .u64 p4])) (by kernel_rfl) (by kernel_rfl)
def A_blend_Exact : List PS := [.c (.i .i64), .c (.i .u16), .c (.i .u16), .c (.i .u16), .c (.i .u16)]
def R_blend_Exact : RS := .tup [.agg [.i .u64, .i .u64, .i .u64, .i .u64, .i .u64], .c (.b)]
noncomputable def L_blend_Exact (vs : List Value) : List Value := (evF Tryz.prog [S_blend_valid, S_blend_term] 1000 88 (inL A_blend_Exact vs)).outL
noncomputable def S_blend_Exact : Sum := ⟨88, L_blend_Exact, A_blend_Exact, R_blend_Exact⟩
theorem ok_blend_Exact : SumOK Tryz.prog Inv S_blend_Exact := sumOK_ev inv_stays (allOK_cons ok_blend_valid (allOK_cons ok_blend_term allOK_nil)) 1000 88 A_blend_Exact R_blend_Exact (fun _ => by kernel_rfl)
noncomputable def F_blend_Exact (p0 p1 p2 p3 p4 : Int) : Int × Int × Int × Int × Int × Bool := (fun l => (num (l.getD 0 undef), num (l.getD 1 undef), num (l.getD 2 undef), num (l.getD 3 undef), num (l.getD 4 undef), tru (l.getD 5 undef))) (L_blend_Exact [.int .i64 p0, .int .u16 p1, .int .u16 p2, .int .u16 p3, .int .u16 p4])
theorem F_blend_Exact_eq (p0 p1 p2 p3 p4 : Int) : F_blend_Exact p0 p1 p2 p3 p4 =
 let x0 := F_blend_valid p0
 bif (!x0) then
 ((0, 0, 0, 0, 0, false))
 else
 (bif (decide (p1 > p2)) then
 ((0, 0, 0, 0, 0, false))
 else
 (bif (decide (p3 > p4)) then
 ((0, 0, 0, 0, 0, false))
 else
 (let x1 := F_blend_term p0 p1 p2 p3 p4
 (x1.1, x1.2.1, x1.2.2.1, x1.2.2.2.1, x1.2.2.2.2, true)))) :=
 spell (fun l => (num (l.getD 0 undef), num (l.getD 1 undef), num (l.getD 2 undef), num (l.getD 3 undef), num (l.getD 4 undef), tru (l.getD 5 undef))) (evF Tryz.prog [S_blend_valid, S_blend_term] 1000 88 (inL A_blend_Exact [.int .i64 p0, .int .u16 p1, .int .u16 p2, .int .u16 p3, .int .u16 p4])) (by kernel_rfl) (by kernel_rfl)
def A_r6_ModeName : List PS := [.c (.i .i64)]
def R_r6_ModeName : RS := .one (.c (.s))
noncomputable def L_r6_ModeName (vs : List Value) : List Value := (evF Tryz.prog [] 1000 81 (inL A_r6_ModeName vs)).outL
noncomputable def S_r6_ModeName : Sum := ⟨81, L_r6_ModeName, A_r6_ModeName, R_r6_ModeName⟩
theorem okB_r6_ModeName (p0 : Int) : (evF Tryz.prog [] 1000 81 (inL A_r6_ModeName [.int .i64 p0])).ok =
 bif (decide (p0 < 1)) then
 (true)
 else
 (bif (decide (p0 ≥ 13)) then
 (true)
 else
 (bif (p0 == 0) then
 (true)
 else
 (bif (p0 == 1) then
 (true)
 else
 (bif (p0 == 2) then
 (true)
 else
 (bif (p0 == 3) then
 (true)
 else
 (bif (p0 == 4) then
 (true)
 else
 (bif (p0 == 5) then
 (true)
 else
 (bif (p0 == 6) then
 (true)
 else
 (bif (p0 == 7) then
 (true)
 else
 (bif (p0 == 8) then
 (true)
 else
 (bif (p0 == 9) then
 (true)
 else
 (bif (p0 == 10) then
 (true)
 else
 (bif (p0 == 11) then
 (true)
 else
 (bif (p0 == 12) then
 (true)
 else
 (false))))))))))))))) := (okR_eq _).trans (by kernel_rfl)
theorem okA_r6_ModeName (h : ∀ p0 , IntKind.i64.min ≤ p0 → p0 ≤ IntKind.i64.max → (evF Tryz.prog [] 1000 81 (inL A_r6_ModeName [.int .i64 p0])).ok = true) : SumOK Tryz.prog Inv S_r6_ModeName := sumOK_part inv_stays allOK_nil 1000 81 A_r6_ModeName R_r6_ModeName (fun _ => by kernel_rfl) (fun vs hk => by
 obtain ⟨_, _, rfl, ⟨p0, rfl, p0lo, p0hi⟩, rfl⟩ := hk
 exact h p0 p0lo p0hi )
theorem ok_r6_ModeName : SumOK Tryz.prog Inv S_r6_ModeName := okA_r6_ModeName fun p0 _ _ => by
 rw [okB_r6_ModeName]
 by_cases h1 : p0 < 1
 ·simp [h1]
 ·by_cases h2 : p0 ≥ 13
  ·simp [h2]
  ·have h : p0 = 1 ∨ p0 = 2 ∨ p0 = 3 ∨ p0 = 4 ∨ p0 = 5 ∨ p0 = 6 ∨ p0 = 7 ∨ p0 = 8 ∨ p0 = 9 ∨ p0 = 10 ∨ p0 = 11 ∨ p0 = 12 := by omega
   rcases h with rfl | rfl | rfl | rfl | rfl | rfl | rfl | rfl | rfl | rfl | rfl | rfl <;> rfl
noncomputable def F_r6_ModeName (p0 : Int) : ByteArray := str ((L_r6_ModeName [.int .i64 p0]).getD 0 undef)
theorem F_r6_ModeName_eq (p0 : Int) : F_r6_ModeName p0 =
 bif (decide (p0 < 1)) then
 ((ByteArray.mk #[]))
 else
 (bif (decide (p0 ≥ 13)) then
 ((ByteArray.mk #[]))
 else
 (bif (p0 == 0) then
 ((ByteArray.mk #[]))
 else
 (bif (p0 == 1) then
 ((ByteArray.mk #[110, 111, 114, 109, 97, 108]))
 else
 (bif (p0 == 2) then
 ((ByteArray.mk #[109, 117, 108, 116, 105, 112, 108, 121]))
 else
 (bif (p0 == 3) then
 ((ByteArray.mk #[115, 99, 114, 101, 101, 110]))
 else
 (bif (p0 == 4) then
 ((ByteArray.mk #[111, 118, 101, 114, 108, 97, 121]))
 else
 (bif (p0 == 5) then
 ((ByteArray.mk #[100, 97, 114, 107, 101, 110]))
 else
 (bif (p0 == 6) then
 ((ByteArray.mk #[108, 105, 103, 104, 116, 101, 110]))
 else
 (bif (p0 == 7) then
 ((ByteArray.mk #[99, 111, 108, 111, 114, 45, 100, 111, 100, 103, 101]))
 else
 (bif (p0 == 8) then
 ((ByteArray.mk #[99, 111, 108, 111, 114, 45, 98, 117, 114, 110]))
 else
 (bif (p0 == 9) then
 ((ByteArray.mk #[104, 97, 114, 100, 45, 108, 105, 103, 104, 116]))
 else
 (bif (p0 == 10) then
 ((ByteArray.mk #[115, 111, 102, 116, 45, 108, 105, 103, 104, 116]))
 else
 (bif (p0 == 11) then
 ((ByteArray.mk #[100, 105, 102, 102, 101, 114, 101, 110, 99, 101]))
 else
 (bif (p0 == 12) then
 ((ByteArray.mk #[101, 120, 99, 108, 117, 115, 105, 111, 110]))
 else
 ((str undef)))))))))))))))) :=
 spell (fun l => str (l.getD 0 undef)) (evF Tryz.prog [] 1000 81 (inL A_r6_ModeName [.int .i64 p0])) (by kernel_rfl) (by kernel_rfl)
def A_r6_IsMode : List PS := [.c (.i .i64)]
def R_r6_IsMode : RS := .one (.c (.b))
noncomputable def L_r6_IsMode (vs : List Value) : List Value := (evF Tryz.prog [S_r6_ModeName] 1000 65 (inL A_r6_IsMode vs)).outL
noncomputable def S_r6_IsMode : Sum := ⟨65, L_r6_IsMode, A_r6_IsMode, R_r6_IsMode⟩
theorem ok_r6_IsMode : SumOK Tryz.prog Inv S_r6_IsMode := sumOK_ev inv_stays (allOK_cons ok_r6_ModeName allOK_nil) 1000 65 A_r6_IsMode R_r6_IsMode (fun _ => by kernel_rfl)
noncomputable def F_r6_IsMode (p0 : Int) : Bool := (fun l => tru (l.getD 0 undef)) (L_r6_IsMode [.int .i64 p0])
theorem F_r6_IsMode_eq (p0 : Int) : F_r6_IsMode p0 =
 let x0 := F_r6_ModeName p0
 (!(eqStr x0 (ByteArray.mk #[]))) :=
 spell (fun l => tru (l.getD 0 undef)) (evF Tryz.prog [S_r6_ModeName] 1000 65 (inL A_r6_IsMode [.int .i64 p0])) (by kernel_rfl) (by kernel_rfl)
def A_r6_exact : List PS := [.c (.i .u64)]
def R_r6_exact : RS := .one (.agg [.i .u64, .i .u64, .i .u64, .i .u64, .i .u64])
noncomputable def L_r6_exact (vs : List Value) : List Value := (evF Tryz.prog [] 1000 96 (inL A_r6_exact vs)).outL
noncomputable def S_r6_exact : Sum := ⟨96, L_r6_exact, A_r6_exact, R_r6_exact⟩
theorem ok_r6_exact : SumOK Tryz.prog Inv S_r6_exact := sumOK_ev inv_stays allOK_nil 1000 96 A_r6_exact R_r6_exact (fun _ => by kernel_rfl)
noncomputable def F_r6_exact (p0 : Int) : Int × Int × Int × Int × Int := (fun l => (num (l.getD 0 undef), num (l.getD 1 undef), num (l.getD 2 undef), num (l.getD 3 undef), num (l.getD 4 undef))) (L_r6_exact [.int .u64 p0])
theorem F_r6_exact_eq (p0 : Int) : F_r6_exact p0 =
 (0, p0, 0, 0, 1) :=
 spell (fun l => (num (l.getD 0 undef), num (l.getD 1 undef), num (l.getD 2 undef), num (l.getD 3 undef), num (l.getD 4 undef))) (evF Tryz.prog [] 1000 96 (inL A_r6_exact [.int .u64 p0])) (by kernel_rfl) (by kernel_rfl)
def A_r6_hard : List PS := [.c (.i .u64), .c (.i .u64), .c (.i .u64), .c (.i .u64)]
def R_r6_hard : RS := .one (.c (.i .u64))
noncomputable def L_r6_hard (vs : List Value) : List Value := (evF Tryz.prog [] 1000 97 (inL A_r6_hard vs)).outL
noncomputable def S_r6_hard : Sum := ⟨97, L_r6_hard, A_r6_hard, R_r6_hard⟩
theorem ok_r6_hard : SumOK Tryz.prog Inv S_r6_hard := sumOK_ev inv_stays allOK_nil 1000 97 A_r6_hard R_r6_hard (fun _ => by kernel_rfl)
noncomputable def F_r6_hard (p0 p1 p2 p3 : Int) : Int := (fun l => num (l.getD 0 undef)) (L_r6_hard [.int .u64 p0, .int .u64 p1, .int .u64 p2, .int .u64 p3])
theorem F_r6_hard_eq (p0 p1 p2 p3 : Int) : F_r6_hard p0 p1 p2 p3 =
 bif (decide ((IntKind.u64.wrap (2 * p0)) ≤ p1)) then
 ((IntKind.u64.wrap ((IntKind.u64.wrap (2 * p0)) * p2)))
 else
 ((IntKind.u64.wrap ((IntKind.u64.wrap (p1 * p3)) - (IntKind.u64.wrap ((IntKind.u64.wrap (2 * (IntKind.u64.wrap (p3 - p2)))) * (IntKind.u64.wrap (p1 - p0))))))) :=
 spell (fun l => num (l.getD 0 undef)) (evF Tryz.prog [] 1000 97 (inL A_r6_hard [.int .u64 p0, .int .u64 p1, .int .u64 p2, .int .u64 p3])) (by kernel_rfl) (by kernel_rfl)
def A_r6_wide : List PS := [.c (.i .u64), .c (.i .u64), .c (.i .u64)]
def R_r6_wide : RS := .one (.agg [.i .u64, .i .u64])
noncomputable def L_r6_wide (vs : List Value) : List Value := (evF Tryz.prog [S_r1_Mul, S_r1_MulSmall] 1000 98 (inL A_r6_wide vs)).outL
noncomputable def S_r6_wide : Sum := ⟨98, L_r6_wide, A_r6_wide, R_r6_wide⟩
theorem ok_r6_wide : SumOK Tryz.prog Inv S_r6_wide := sumOK_ev inv_stays (allOK_cons ok_r1_Mul (allOK_cons ok_r1_MulSmall allOK_nil)) 1000 98 A_r6_wide R_r6_wide (fun _ => by kernel_rfl)
noncomputable def F_r6_wide (p0 p1 p2 : Int) : Int × Int := (fun l => (num (l.getD 0 undef), num (l.getD 1 undef))) (L_r6_wide [.int .u64 p0, .int .u64 p1, .int .u64 p2])
theorem F_r6_wide_eq (p0 p1 p2 : Int) : F_r6_wide p0 p1 p2 =
 let x0 := F_r1_Mul p0 p1
 let x1 := F_r1_MulSmall x0.1 x0.2 p2
 (x1.1, x1.2.1) :=
 spell (fun l => (num (l.getD 0 undef), num (l.getD 1 undef))) (evF Tryz.prog [S_r1_Mul, S_r1_MulSmall] 1000 98 (inL A_r6_wide [.int .u64 p0, .int .u64 p1, .int .u64 p2])) (by kernel_rfl) (by kernel_rfl)
def A_r6_soft : List PS := [.c (.i .u64), .c (.i .u64), .c (.i .u64), .c (.i .u64)]
def R_r6_soft : RS := .one (.agg [.i .u64, .i .u64, .i .u64, .i .u64, .i .u64])
noncomputable def L_r6_soft (vs : List Value) : List Value := (evF Tryz.prog [S_r1_Add, S_r1_Sub, S_r6_exact, S_r6_wide] 1000 100 (inL A_r6_soft vs)).outL
noncomputable def S_r6_soft : Sum := ⟨100, L_r6_soft, A_r6_soft, R_r6_soft⟩
theorem ok_r6_soft : SumOK Tryz.prog Inv S_r6_soft := sumOK_ev inv_stays (allOK_cons ok_r1_Add (allOK_cons ok_r1_Sub (allOK_cons ok_r6_exact (allOK_cons ok_r6_wide allOK_nil)))) 1000 100 A_r6_soft R_r6_soft (fun _ => by kernel_rfl)
noncomputable def F_r6_soft (p0 p1 p2 p3 : Int) : Int × Int × Int × Int × Int := (fun l => (num (l.getD 0 undef), num (l.getD 1 undef), num (l.getD 2 undef), num (l.getD 3 undef), num (l.getD 4 undef))) (L_r6_soft [.int .u64 p0, .int .u64 p1, .int .u64 p2, .int .u64 p3])
theorem F_r6_soft_eq (p0 p1 p2 p3 : Int) : F_r6_soft p0 p1 p2 p3 =
 bif (p3 == 0) then
 (let x0 := F_r6_exact 0
 (x0.1, x0.2.1, x0.2.2.1, x0.2.2.2.1, x0.2.2.2.2))
 else
 (bif (decide ((IntKind.u64.wrap (2 * p0)) ≤ p1)) then
 (let x1 := F_r6_wide (IntKind.u64.wrap (p2 * p1)) p3 1
 let x2 := F_r6_wide (IntKind.u64.wrap ((IntKind.u64.wrap (p1 - (IntKind.u64.wrap (2 * p0)))) * p2)) (IntKind.u64.wrap (p3 - p2)) 1
 let x3 := F_r1_Sub x1.1 x1.2 x2.1 x2.2
 (x3.1, x3.2.1, 0, 0, p3))
 else
 (bif (decide ((IntKind.u64.wrap (4 * p2)) ≤ p3)) then
 (let x4 := F_r6_wide (IntKind.u64.wrap (p2 * p1)) (IntKind.u64.wrap (p3 * p3)) 1
 let x5 := F_r6_wide (IntKind.u64.wrap ((IntKind.u64.wrap ((IntKind.u64.wrap (2 * p0)) - p1)) * p2)) (IntKind.u64.wrap ((IntKind.u64.wrap ((IntKind.u64.wrap ((IntKind.u64.wrap (16 * p2)) * p2)) + (IntKind.u64.wrap ((IntKind.u64.wrap (3 * p3)) * p3)))) - (IntKind.u64.wrap ((IntKind.u64.wrap (12 * p2)) * p3)))) 1
 let x6 := F_r1_Add x4.1 x4.2 x5.1 x5.2
 (x6.1, x6.2.1, 0, 0, (IntKind.u64.wrap (p3 * p3))))
 else
 ((0, (IntKind.u64.wrap ((IntKind.u64.wrap (2 * p2)) * (IntKind.u64.wrap (p1 - p0)))), (IntKind.u64.wrap ((IntKind.u64.wrap (2 * p0)) - p1)), (IntKind.u64.wrap (p2 * p3)), 1)))) :=
 spell (fun l => (num (l.getD 0 undef), num (l.getD 1 undef), num (l.getD 2 undef), num (l.getD 3 undef), num (l.getD 4 undef))) (evF Tryz.prog [S_r1_Add, S_r1_Sub, S_r6_exact, S_r6_wide] 1000 100 (inL A_r6_soft [.int .u64 p0, .int .u64 p1, .int .u64 p2, .int .u64 p3])) (by kernel_rfl) (by kernel_rfl)
def A_r6_Blend : List PS := [.c (.i .i64), .c (.i .u16), .c (.i .u16), .c (.i .u16), .c (.i .u16)]
def R_r6_Blend : RS := .tup [.agg [.i .u64, .i .u64, .i .u64, .i .u64, .i .u64], .c (.b)]
noncomputable def L_r6_Blend (vs : List Value) : List Value := (evF Tryz.prog [S_r1_Sub, S_r6_IsMode, S_r6_exact, S_r6_hard, S_r6_wide, S_r6_soft] 1000 82 (inL A_r6_Blend vs)).outL
noncomputable def S_r6_Blend : Sum := ⟨82, L_r6_Blend, A_r6_Blend, R_r6_Blend⟩
theorem ok_r6_Blend : SumOK Tryz.prog Inv S_r6_Blend := sumOK_ev inv_stays (allOK_cons ok_r1_Sub (allOK_cons ok_r6_IsMode (allOK_cons ok_r6_exact (allOK_cons ok_r6_hard (allOK_cons ok_r6_wide (allOK_cons ok_r6_soft allOK_nil)))))) 1000 82 A_r6_Blend R_r6_Blend (fun _ => by kernel_rfl)
noncomputable def F_r6_Blend (p0 p1 p2 p3 p4 : Int) : Int × Int × Int × Int × Int × Bool := (fun l => (num (l.getD 0 undef), num (l.getD 1 undef), num (l.getD 2 undef), num (l.getD 3 undef), num (l.getD 4 undef), tru (l.getD 5 undef))) (L_r6_Blend [.int .i64 p0, .int .u16 p1, .int .u16 p2, .int .u16 p3, .int .u16 p4])
theorem F_r6_Blend_eq (p0 p1 p2 p3 p4 : Int) : F_r6_Blend p0 p1 p2 p3 p4 =
 let x0 := F_r6_IsMode p0
 bif (!x0) then
 ((0, 0, 0, 0, 0, false))
 else
 (bif (decide (p1 > p2)) then
 ((0, 0, 0, 0, 0, false))
 else
 (bif (decide (p3 > p4)) then
 ((0, 0, 0, 0, 0, false))
 else
 (bif (p0 == 1) then
 (let x1 := F_r6_exact (IntKind.u64.wrap (p1 * p4))
 (x1.1, x1.2.1, x1.2.2.1, x1.2.2.2.1, x1.2.2.2.2, true))
 else
 (bif (p0 == 2) then
 (let x2 := F_r6_exact (IntKind.u64.wrap (p1 * p3))
 (x2.1, x2.2.1, x2.2.2.1, x2.2.2.2.1, x2.2.2.2.2, true))
 else
 (bif (p0 == 3) then
 (let x3 := F_r6_exact (IntKind.u64.wrap ((IntKind.u64.wrap ((IntKind.u64.wrap (p1 * p4)) + (IntKind.u64.wrap (p3 * p2)))) - (IntKind.u64.wrap (p1 * p3))))
 (x3.1, x3.2.1, x3.2.2.1, x3.2.2.2.1, x3.2.2.2.2, true))
 else
 (bif (p0 == 4) then
 (let x4 := F_r6_hard p3 p4 p1 p2
 let x5 := F_r6_exact x4
 (x5.1, x5.2.1, x5.2.2.1, x5.2.2.2.1, x5.2.2.2.2, true))
 else
 (bif (p0 == 5) then
 (let x6 := F_r6_exact (if (IntKind.u64.wrap (p3 * p2)) < (IntKind.u64.wrap (p1 * p4)) then (IntKind.u64.wrap (p3 * p2)) else (IntKind.u64.wrap (p1 * p4)))
 (x6.1, x6.2.1, x6.2.2.1, x6.2.2.2.1, x6.2.2.2.2, true))
 else
 (bif (p0 == 6) then
 (let x7 := F_r6_exact (if (IntKind.u64.wrap (p3 * p2)) > (IntKind.u64.wrap (p1 * p4)) then (IntKind.u64.wrap (p3 * p2)) else (IntKind.u64.wrap (p1 * p4)))
 (x7.1, x7.2.1, x7.2.2.1, x7.2.2.2.1, x7.2.2.2.2, true))
 else
 (bif (p0 == 7) then
 (bif (p3 == 0) then
 (let x8 := F_r6_exact 0
 (x8.1, x8.2.1, x8.2.2.1, x8.2.2.2.1, x8.2.2.2.2, true))
 else
 (bif (decide ((IntKind.u64.wrap (p3 * p2)) ≥ (IntKind.u64.wrap (p4 * (IntKind.u64.wrap (p2 - p1)))))) then
 (let x9 := F_r6_exact (IntKind.u64.wrap (p2 * p4))
 (x9.1, x9.2.1, x9.2.2.1, x9.2.2.2.1, x9.2.2.2.2, true))
 else
 (let x10 := F_r6_wide p2 p2 p3
 (x10.1, x10.2, 0, 0, (IntKind.u64.wrap (p2 - p1)), true))))
 else
 (bif (p0 == 8) then
 (bif (p3 == p4) then
 (let x11 := F_r6_exact (IntKind.u64.wrap (p2 * p4))
 (x11.1, x11.2.1, x11.2.2.1, x11.2.2.2.1, x11.2.2.2.2, true))
 else
 (bif (decide ((IntKind.u64.wrap ((IntKind.u64.wrap (p4 - p3)) * p2)) ≥ (IntKind.u64.wrap (p1 * p4)))) then
 (let x12 := F_r6_exact 0
 (x12.1, x12.2.1, x12.2.2.1, x12.2.2.2.1, x12.2.2.2.2, true))
 else
 (let x13 := F_r6_wide p2 p4 p1
 let x14 := F_r6_wide (IntKind.u64.wrap (p4 - p3)) p2 p2
 let x15 := F_r1_Sub x13.1 x13.2 x14.1 x14.2
 (x15.1, x15.2.1, 0, 0, p1, true))))
 else
 (bif (p0 == 9) then
 (let x16 := F_r6_hard p1 p2 p3 p4
 let x17 := F_r6_exact x16
 (x17.1, x17.2.1, x17.2.2.1, x17.2.2.2.1, x17.2.2.2.2, true))
 else
 (bif (p0 == 10) then
 (let x18 := F_r6_soft p1 p2 p3 p4
 (x18.1, x18.2.1, x18.2.2.1, x18.2.2.2.1, x18.2.2.2.2, true))
 else
 (bif (p0 == 11) then
 (let x19 := F_r6_exact (IntKind.u64.wrap ((if (IntKind.u64.wrap (p3 * p2)) > (IntKind.u64.wrap (p1 * p4)) then (IntKind.u64.wrap (p3 * p2)) else (IntKind.u64.wrap (p1 * p4))) - (if (IntKind.u64.wrap (p3 * p2)) < (IntKind.u64.wrap (p1 * p4)) then (IntKind.u64.wrap (p3 * p2)) else (IntKind.u64.wrap (p1 * p4)))))
 (x19.1, x19.2.1, x19.2.2.1, x19.2.2.2.1, x19.2.2.2.2, true))
 else
 (let x20 := F_r6_exact (IntKind.u64.wrap ((IntKind.u64.wrap ((IntKind.u64.wrap (p1 * p4)) + (IntKind.u64.wrap (p3 * p2)))) - (IntKind.u64.wrap ((IntKind.u64.wrap (2 * p1)) * p3))))
 (x20.1, x20.2.1, x20.2.2.1, x20.2.2.2.1, x20.2.2.2.2, true))))))))))))))) :=
 spell (fun l => (num (l.getD 0 undef), num (l.getD 1 undef), num (l.getD 2 undef), num (l.getD 3 undef), num (l.getD 4 undef), tru (l.getD 5 undef))) (evF Tryz.prog [S_r1_Sub, S_r6_IsMode, S_r6_exact, S_r6_hard, S_r6_wide, S_r6_soft] 1000 82 (inL A_r6_Blend [.int .i64 p0, .int .u16 p1, .int .u16 p2, .int .u16 p3, .int .u16 p4])) (by kernel_rfl) (by kernel_rfl)
end Go.Proofs.YtdioaiepkhepaaaGreatDoor
