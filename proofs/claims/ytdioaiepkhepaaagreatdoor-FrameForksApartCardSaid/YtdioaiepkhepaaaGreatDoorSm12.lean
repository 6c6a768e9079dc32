/- What the functions of chapter 12 compute. Printed by a program (gen/Gen.lean); what each function does is told by the evaluator, and the kernel checks it. No condition. -/
import Derived.Test.YtdioaiepkhepaaaGreatDoorSm09
import Derived.KernelRfl
namespace Go.Proofs.YtdioaiepkhepaaaGreatDoor
open Go.RowKit
def A_group_Valid : List PS := [.agg [.i .u16, .i .u16, .i .u16, .i .u16, .i .u16, .i .u16], .agg [.i .u16, .i .u16, .i .u16, .i .u16, .i .u16], .c (.i .u16)]
def R_group_Valid : RS := .one (.c (.b))
noncomputable def L_group_Valid : List Value → List Value := Classical.choose (veil fun vs => (evF Tryz.prog [S_sample_Valid] 1000 49 (inL A_group_Valid vs)).outL)
theorem L_group_Valid_is (vs : List Value) : L_group_Valid vs = (evF Tryz.prog [S_sample_Valid] 1000 49 (inL A_group_Valid vs)).outL := Classical.choose_spec (veil _) vs
noncomputable def S_group_Valid : Sum := ⟨49, L_group_Valid, A_group_Valid, R_group_Valid⟩
theorem ok_group_Valid : SumOK Tryz.prog InvN S_group_Valid := sumOK_evV invN_stays (allOK_cons ok_sample_Valid allOK_nil) 1000 49 A_group_Valid R_group_Valid L_group_Valid_is (fun _ => by kernel_rfl)
noncomputable def F_group_Valid (p0 p1 p2 p3 p4 p5 p6 p7 p8 p9 p10 p11 : Int) : Bool := (fun l => tru (l.getD 0 undef)) (L_group_Valid [.int .u16 p0, .int .u16 p1, .int .u16 p2, .int .u16 p3, .int .u16 p4, .int .u16 p5, .int .u16 p6, .int .u16 p7, .int .u16 p8, .int .u16 p9, .int .u16 p10, .int .u16 p11])
theorem F_group_Valid_eq (p0 p1 p2 p3 p4 p5 p6 p7 p8 p9 p10 p11 : Int) : F_group_Valid p0 p1 p2 p3 p4 p5 p6 p7 p8 p9 p10 p11 =
 bif (decide (p0 > p3)) then
 (false)
 else
 (bif (decide (p1 > p3)) then
 (false)
 else
 (bif (decide (p2 > p3)) then
 (false)
 else
 (bif (p11 == 255) then
 (bif (decide (p4 ≤ p3)) then
 (bif (decide (p4 ≤ p5)) then
 (bif (decide (p3 ≤ p11)) then
 (bif (decide (p5 ≤ p11)) then
 (let x0 := F_sample_Valid p6 p7 p8 p9 p10 p11
 bif x0 then
 ((p10 == p9))
 else
 (false))
 else
 (false))
 else
 (false))
 else
 (false))
 else
 (false))
 else
 (bif (p11 == 65535) then
 (bif (decide (p4 ≤ p3)) then
 (bif (decide (p4 ≤ p5)) then
 (bif (decide (p3 ≤ p11)) then
 (bif (decide (p5 ≤ p11)) then
 (let x1 := F_sample_Valid p6 p7 p8 p9 p10 p11
 bif x1 then
 ((p10 == p9))
 else
 (false))
 else
 (false))
 else
 (false))
 else
 (false))
 else
 (false))
 else
 (false))))) :=
 spellV (L := L_group_Valid) (fun l => tru (l.getD 0 undef)) (evF Tryz.prog [S_sample_Valid] 1000 49 (inL A_group_Valid [.int .u16 p0, .int .u16 p1, .int .u16 p2, .int .u16 p3, .int .u16 p4, .int .u16 p5, .int .u16 p6, .int .u16 p7, .int .u16 p8, .int .u16 p9, .int .u16 p10, .int .u16 p11])) (L_group_Valid_is _) (by kernel_rfl)
def A_group_Begin : List PS := [.c (.b), .c (.b), .agg [.i .u16, .i .u16, .i .u16, .i .u16, .i .u16, .i .u16], .agg [.i .u16, .i .u16, .i .u16, .i .u16, .i .u16]]
def R_group_Begin : RS := .tup [.agg [.i .u16, .i .u16, .i .u16, .i .u16, .i .u16, .i .u16], .agg [.i .u16, .i .u16, .i .u16, .i .u16, .i .u16]]
noncomputable def L_group_Begin : List Value → List Value := Classical.choose (veil fun vs => (evF Tryz.prog [] 1000 38 (inL A_group_Begin vs)).outL)
theorem L_group_Begin_is (vs : List Value) : L_group_Begin vs = (evF Tryz.prog [] 1000 38 (inL A_group_Begin vs)).outL := Classical.choose_spec (veil _) vs
noncomputable def S_group_Begin : Sum := ⟨38, L_group_Begin, A_group_Begin, R_group_Begin⟩
theorem ok_group_Begin : SumOK Tryz.prog InvN S_group_Begin := sumOK_evV invN_stays allOK_nil 1000 38 A_group_Begin R_group_Begin L_group_Begin_is (fun _ => by kernel_rfl)
noncomputable def F_group_Begin (p0 p1 : Bool) (p2 p3 p4 p5 p6 p7 p8 p9 p10 p11 p12 : Int) : Int × Int × Int × Int × Int × Int × Int × Int × Int × Int × Int := (fun l => (num (l.getD 0 undef), num (l.getD 1 undef), num (l.getD 2 undef), num (l.getD 3 undef), num (l.getD 4 undef), num (l.getD 5 undef), num (l.getD 6 undef), num (l.getD 7 undef), num (l.getD 8 undef), num (l.getD 9 undef), num (l.getD 10 undef))) (L_group_Begin [.bool p0, .bool p1, .int .u16 p2, .int .u16 p3, .int .u16 p4, .int .u16 p5, .int .u16 p6, .int .u16 p7, .int .u16 p8, .int .u16 p9, .int .u16 p10, .int .u16 p11, .int .u16 p12])
theorem F_group_Begin_eq (p0 p1 : Bool) (p2 p3 p4 p5 p6 p7 p8 p9 p10 p11 p12 : Int) : F_group_Begin p0 p1 p2 p3 p4 p5 p6 p7 p8 p9 p10 p11 p12 =
 bif p0 then
 ((0, 0, 0, 0, 0, 0, 0, 0, 0, 0, 0))
 else
 (bif (!p1) then
 ((p2, p3, p4, p5, 0, 0, p2, p3, p4, p5, p5))
 else
 ((p8, p9, p10, p11, 0, 0, p8, p9, p10, p11, p12))) :=
 spellV (L := L_group_Begin) (fun l => (num (l.getD 0 undef), num (l.getD 1 undef), num (l.getD 2 undef), num (l.getD 3 undef), num (l.getD 4 undef), num (l.getD 5 undef), num (l.getD 6 undef), num (l.getD 7 undef), num (l.getD 8 undef), num (l.getD 9 undef), num (l.getD 10 undef))) (evF Tryz.prog [] 1000 38 (inL A_group_Begin [.bool p0, .bool p1, .int .u16 p2, .int .u16 p3, .int .u16 p4, .int .u16 p5, .int .u16 p6, .int .u16 p7, .int .u16 p8, .int .u16 p9, .int .u16 p10, .int .u16 p11, .int .u16 p12])) (L_group_Begin_is _) (by kernel_rfl)
def A_group_removed : List PS := [.c (.i .u16), .c (.i .u16), .c (.i .u16), .c (.i .u16)]
def R_group_removed : RS := .one (.c (.i .u16))
noncomputable def L_group_removed : List Value → List Value := Classical.choose (veil fun vs => (evF Tryz.prog [S_round_Half] 1000 50 (inL A_group_removed vs)).outL)
theorem L_group_removed_is (vs : List Value) : L_group_removed vs = (evF Tryz.prog [S_round_Half] 1000 50 (inL A_group_removed vs)).outL := Classical.choose_spec (veil _) vs
noncomputable def S_group_removed : Sum := ⟨50, L_group_removed, A_group_removed, R_group_removed⟩
theorem ok_group_removed : SumOK Tryz.prog InvN S_group_removed := sumOK_evV invN_stays (allOK_cons ok_round_Half.any allOK_nil) 1000 50 A_group_removed R_group_removed L_group_removed_is (fun _ => by kernel_rfl)
noncomputable def F_group_removed (p0 p1 p2 p3 : Int) : Int := (fun l => num (l.getD 0 undef)) (L_group_removed [.int .u16 p0, .int .u16 p1, .int .u16 p2, .int .u16 p3])
theorem F_group_removed_eq (p0 p1 p2 p3 : Int) : F_group_removed p0 p1 p2 p3 =
 bif (decide ((IntKind.u64.wrap (p3 * p0)) ≤ (IntKind.u64.wrap ((IntKind.u16.wrap (p3 - p2)) * p1)))) then
 (0)
 else
 (let x0 := F_round_Half (IntKind.u64.wrap ((IntKind.u64.wrap (p3 * p0)) - (IntKind.u64.wrap ((IntKind.u16.wrap (p3 - p2)) * p1)))) p3
 (if p2 < (IntKind.u16.wrap x0) then p2 else (IntKind.u16.wrap x0))) :=
 spellV (L := L_group_removed) (fun l => num (l.getD 0 undef)) (evF Tryz.prog [S_round_Half] 1000 50 (inL A_group_removed [.int .u16 p0, .int .u16 p1, .int .u16 p2, .int .u16 p3])) (L_group_removed_is _) (by kernel_rfl)
def A_group_replace : List PS := [.c (.i .i64), .c (.i .u16), .agg [.i .u16, .i .u16, .i .u16, .i .u16, .i .u16], .agg [.i .u16, .i .u16, .i .u16, .i .u16, .i .u16, .i .u16], .agg [.i .u16, .i .u16, .i .u16, .i .u16, .i .u16]]
def R_group_replace : RS := .tup [.agg [.i .u16, .i .u16, .i .u16, .i .u16, .i .u16, .i .u16], .c (.b)]
noncomputable def L_group_replace : List Value → List Value := Classical.choose (veil fun vs => (evF Tryz.prog [S_knockout_Color, S_knockout_Alpha, S_knockout_Own, S_operator_Shape] 1000 57 (inL A_group_replace vs)).outL)
theorem L_group_replace_is (vs : List Value) : L_group_replace vs = (evF Tryz.prog [S_knockout_Color, S_knockout_Alpha, S_knockout_Own, S_operator_Shape] 1000 57 (inL A_group_replace vs)).outL := Classical.choose_spec (veil _) vs
noncomputable def S_group_replace : Sum := ⟨57, L_group_replace, A_group_replace, R_group_replace⟩
theorem ok_group_replace : SumOK Tryz.prog InvN S_group_replace := sumOK_evV invN_stays (allOK_cons ok_knockout_Color.any (allOK_cons ok_knockout_Alpha.any (allOK_cons ok_knockout_Own.any (allOK_cons ok_operator_Shape allOK_nil)))) 1000 57 A_group_replace R_group_replace L_group_replace_is (fun _ => by kernel_rfl)
noncomputable def F_group_replace (p0 p1 p2 p3 p4 p5 p6 p7 p8 p9 p10 p11 p12 p13 p14 p15 p16 p17 : Int) : Int × Int × Int × Int × Int × Int × Bool := (fun l => (num (l.getD 0 undef), num (l.getD 1 undef), num (l.getD 2 undef), num (l.getD 3 undef), num (l.getD 4 undef), num (l.getD 5 undef), tru (l.getD 6 undef))) (L_group_replace [.int .i64 p0, .int .u16 p1, .int .u16 p2, .int .u16 p3, .int .u16 p4, .int .u16 p5, .int .u16 p6, .int .u16 p7, .int .u16 p8, .int .u16 p9, .int .u16 p10, .int .u16 p11, .int .u16 p12, .int .u16 p13, .int .u16 p14, .int .u16 p15, .int .u16 p16, .int .u16 p17])
theorem F_group_replace_eq (p0 p1 p2 p3 p4 p5 p6 p7 p8 p9 p10 p11 p12 p13 p14 p15 p16 p17 : Int) : F_group_replace p0 p1 p2 p3 p4 p5 p6 p7 p8 p9 p10 p11 p12 p13 p14 p15 p16 p17 =
 let x0 := F_knockout_Color p0 p1 p2 p5 p6 p7 p13 p16
 bif (!x0.2) then
 ((0, 0, 0, 0, 0, 0, false))
 else
 (let x1 := F_knockout_Color p0 p1 p3 p5 p6 p8 p14 p16
 bif (!x1.2) then
 ((0, 0, 0, 0, 0, 0, false))
 else
 (let x2 := F_knockout_Color p0 p1 p4 p5 p6 p9 p15 p16
 bif (!x2.2) then
 ((0, 0, 0, 0, 0, 0, false))
 else
 (let x3 := F_knockout_Alpha p1 p5 p6 p10 p16
 let x4 := F_knockout_Own p1 p5 p6 p11
 let x5 := F_operator_Shape 4 p6 p12 p1
 (x0.1, x1.1, x2.1, x3.1, x4.1, x5, true)))) :=
 spellV (L := L_group_replace) (fun l => (num (l.getD 0 undef), num (l.getD 1 undef), num (l.getD 2 undef), num (l.getD 3 undef), num (l.getD 4 undef), num (l.getD 5 undef), tru (l.getD 6 undef))) (evF Tryz.prog [S_knockout_Color, S_knockout_Alpha, S_knockout_Own, S_operator_Shape] 1000 57 (inL A_group_replace [.int .i64 p0, .int .u16 p1, .int .u16 p2, .int .u16 p3, .int .u16 p4, .int .u16 p5, .int .u16 p6, .int .u16 p7, .int .u16 p8, .int .u16 p9, .int .u16 p10, .int .u16 p11, .int .u16 p12, .int .u16 p13, .int .u16 p14, .int .u16 p15, .int .u16 p16, .int .u16 p17])) (L_group_replace_is _) (by kernel_rfl)
def A_group_Step : List PS := [.c (.b), .c (.i .i64), .c (.i .i64), .c (.i .u16), .agg [.i .u16, .i .u16, .i .u16, .i .u16, .i .u16], .agg [.i .u16, .i .u16, .i .u16, .i .u16, .i .u16, .i .u16], .agg [.i .u16, .i .u16, .i .u16, .i .u16, .i .u16]]
def R_group_Step : RS := .tup [.agg [.i .u16, .i .u16, .i .u16, .i .u16, .i .u16, .i .u16], .c (.b)]
noncomputable def L_group_Step : List Value → List Value := Classical.choose (veil fun vs => (evF Tryz.prog [S_operator_Alpha, S_operator_Shape, S_mix_Color, S_sample_Valid, S_group_Valid, S_group_replace] 1000 48 (inL A_group_Step vs)).outL)
theorem L_group_Step_is (vs : List Value) : L_group_Step vs = (evF Tryz.prog [S_operator_Alpha, S_operator_Shape, S_mix_Color, S_sample_Valid, S_group_Valid, S_group_replace] 1000 48 (inL A_group_Step vs)).outL := Classical.choose_spec (veil _) vs
noncomputable def S_group_Step : Sum := ⟨48, L_group_Step, A_group_Step, R_group_Step⟩
theorem ok_group_Step : SumOK Tryz.prog InvN S_group_Step := sumOK_evV invN_stays (allOK_cons ok_operator_Alpha (allOK_cons ok_operator_Shape (allOK_cons ok_mix_Color (allOK_cons ok_sample_Valid (allOK_cons ok_group_Valid (allOK_cons ok_group_replace allOK_nil)))))) 1000 48 A_group_Step R_group_Step L_group_Step_is (fun _ => by kernel_rfl)
noncomputable def F_group_Step (p0 : Bool) (p1 p2 p3 p4 p5 p6 p7 p8 p9 p10 p11 p12 p13 p14 p15 p16 p17 p18 p19 : Int) : Int × Int × Int × Int × Int × Int × Bool := (fun l => (num (l.getD 0 undef), num (l.getD 1 undef), num (l.getD 2 undef), num (l.getD 3 undef), num (l.getD 4 undef), num (l.getD 5 undef), tru (l.getD 6 undef))) (L_group_Step [.bool p0, .int .i64 p1, .int .i64 p2, .int .u16 p3, .int .u16 p4, .int .u16 p5, .int .u16 p6, .int .u16 p7, .int .u16 p8, .int .u16 p9, .int .u16 p10, .int .u16 p11, .int .u16 p12, .int .u16 p13, .int .u16 p14, .int .u16 p15, .int .u16 p16, .int .u16 p17, .int .u16 p18, .int .u16 p19])
theorem F_group_Step_eq (p0 : Bool) (p1 p2 p3 p4 p5 p6 p7 p8 p9 p10 p11 p12 p13 p14 p15 p16 p17 p18 p19 : Int) : F_group_Step p0 p1 p2 p3 p4 p5 p6 p7 p8 p9 p10 p11 p12 p13 p14 p15 p16 p17 p18 p19 =
 let x0 := F_group_Valid p9 p10 p11 p12 p13 p14 p15 p16 p17 p18 p19 p3
 bif (!x0) then
 ((0, 0, 0, 0, 0, 0, false))
 else
 (let x1 := F_sample_Valid p4 p5 p6 p7 p8 p3
 bif (!x1) then
 ((0, 0, 0, 0, 0, 0, false))
 else
 (bif p0 then
 (bif (p1 != 4) then
 ((0, 0, 0, 0, 0, 0, false))
 else
 (bif p0 then
 (let x2 := F_group_replace p2 p3 p4 p5 p6 p7 p8 p9 p10 p11 p12 p13 p14 p15 p16 p17 p18 p19
 (x2.1, x2.2.1, x2.2.2.1, x2.2.2.2.1, x2.2.2.2.2.1, x2.2.2.2.2.2.1, x2.2.2.2.2.2.2))
 else
 (let x3 := F_mix_Color p1 p2 p3 p4 p7 p9 p12
 bif (!x3.2) then
 ((0, 0, 0, 0, 0, 0, false))
 else
 (let x4 := F_mix_Color p1 p2 p3 p5 p7 p10 p12
 bif (!x4.2) then
 ((0, 0, 0, 0, 0, 0, false))
 else
 (let x5 := F_mix_Color p1 p2 p3 p6 p7 p11 p12
 bif (!x5.2) then
 ((0, 0, 0, 0, 0, 0, false))
 else
 (let x6 := F_operator_Alpha p1 p7 p12 p3
 let x7 := F_operator_Alpha p1 p7 p13 p3
 let x8 := F_operator_Shape p1 p8 p14 p3
 (x3.1, x4.1, x5.1, x6, x7, x8, true)))))))
 else
 (bif p0 then
 (let x9 := F_group_replace p2 p3 p4 p5 p6 p7 p8 p9 p10 p11 p12 p13 p14 p15 p16 p17 p18 p19
 (x9.1, x9.2.1, x9.2.2.1, x9.2.2.2.1, x9.2.2.2.2.1, x9.2.2.2.2.2.1, x9.2.2.2.2.2.2))
 else
 (let x10 := F_mix_Color p1 p2 p3 p4 p7 p9 p12
 bif (!x10.2) then
 ((0, 0, 0, 0, 0, 0, false))
 else
 (let x11 := F_mix_Color p1 p2 p3 p5 p7 p10 p12
 bif (!x11.2) then
 ((0, 0, 0, 0, 0, 0, false))
 else
 (let x12 := F_mix_Color p1 p2 p3 p6 p7 p11 p12
 bif (!x12.2) then
 ((0, 0, 0, 0, 0, 0, false))
 else
 (let x13 := F_operator_Alpha p1 p7 p12 p3
 let x14 := F_operator_Alpha p1 p7 p13 p3
 let x15 := F_operator_Shape p1 p8 p14 p3
 (x10.1, x11.1, x12.1, x13, x14, x15, true)))))))) :=
 spellV (L := L_group_Step) (fun l => (num (l.getD 0 undef), num (l.getD 1 undef), num (l.getD 2 undef), num (l.getD 3 undef), num (l.getD 4 undef), num (l.getD 5 undef), tru (l.getD 6 undef))) (evF Tryz.prog [S_operator_Alpha, S_operator_Shape, S_mix_Color, S_sample_Valid, S_group_Valid, S_group_replace] 1000 48 (inL A_group_Step [.bool p0, .int .i64 p1, .int .i64 p2, .int .u16 p3, .int .u16 p4, .int .u16 p5, .int .u16 p6, .int .u16 p7, .int .u16 p8, .int .u16 p9, .int .u16 p10, .int .u16 p11, .int .u16 p12, .int .u16 p13, .int .u16 p14, .int .u16 p15, .int .u16 p16, .int .u16 p17, .int .u16 p18, .int .u16 p19])) (L_group_Step_is _) (by kernel_rfl)
def A_group_Result : List PS := [.agg [.i .u16, .i .u16, .i .u16, .i .u16, .i .u16, .i .u16], .agg [.i .u16, .i .u16, .i .u16, .i .u16, .i .u16], .c (.i .u16)]
def R_group_Result : RS := .tup [.agg [.i .u16, .i .u16, .i .u16, .i .u16, .i .u16], .c (.b)]
noncomputable def L_group_Result : List Value → List Value := Classical.choose (veil fun vs => (evF Tryz.prog [S_group_Valid, S_group_removed] 1000 42 (inL A_group_Result vs)).outL)
theorem L_group_Result_is (vs : List Value) : L_group_Result vs = (evF Tryz.prog [S_group_Valid, S_group_removed] 1000 42 (inL A_group_Result vs)).outL := Classical.choose_spec (veil _) vs
noncomputable def S_group_Result : Sum := ⟨42, L_group_Result, A_group_Result, R_group_Result⟩
theorem ok_group_Result : SumOK Tryz.prog InvN S_group_Result := sumOK_evV invN_stays (allOK_cons ok_group_Valid (allOK_cons ok_group_removed allOK_nil)) 1000 42 A_group_Result R_group_Result L_group_Result_is (fun _ => by kernel_rfl)
noncomputable def F_group_Result (p0 p1 p2 p3 p4 p5 p6 p7 p8 p9 p10 p11 : Int) : Int × Int × Int × Int × Int × Bool := (fun l => (num (l.getD 0 undef), num (l.getD 1 undef), num (l.getD 2 undef), num (l.getD 3 undef), num (l.getD 4 undef), tru (l.getD 5 undef))) (L_group_Result [.int .u16 p0, .int .u16 p1, .int .u16 p2, .int .u16 p3, .int .u16 p4, .int .u16 p5, .int .u16 p6, .int .u16 p7, .int .u16 p8, .int .u16 p9, .int .u16 p10, .int .u16 p11])
theorem F_group_Result_eq (p0 p1 p2 p3 p4 p5 p6 p7 p8 p9 p10 p11 : Int) : F_group_Result p0 p1 p2 p3 p4 p5 p6 p7 p8 p9 p10 p11 =
 let x0 := F_group_Valid p0 p1 p2 p3 p4 p5 p6 p7 p8 p9 p10 p11
 bif (!x0) then
 ((0, 0, 0, 0, 0, false))
 else
 (let x1 := F_group_removed p0 p6 p4 p11
 let x2 := F_group_removed p1 p7 p4 p11
 let x3 := F_group_removed p2 p8 p4 p11
 (x1, x2, x3, p4, p5, true)) :=
 spellV (L := L_group_Result) (fun l => (num (l.getD 0 undef), num (l.getD 1 undef), num (l.getD 2 undef), num (l.getD 3 undef), num (l.getD 4 undef), tru (l.getD 5 undef))) (evF Tryz.prog [S_group_Valid, S_group_removed] 1000 42 (inL A_group_Result [.int .u16 p0, .int .u16 p1, .int .u16 p2, .int .u16 p3, .int .u16 p4, .int .u16 p5, .int .u16 p6, .int .u16 p7, .int .u16 p8, .int .u16 p9, .int .u16 p10, .int .u16 p11])) (L_group_Result_is _) (by kernel_rfl)
def A_r6_ValidAccum : List PS := [.agg [.i .u16, .i .u16, .i .u16, .i .u16, .i .u16, .i .u16], .agg [.i .u16, .i .u16, .i .u16, .i .u16, .i .u16], .c (.i .u16)]
def R_r6_ValidAccum : RS := .one (.c (.b))
noncomputable def L_r6_ValidAccum : List Value → List Value := Classical.choose (veil fun vs => (evF Tryz.prog [S_r1_Full, S_r1_ValidPixel] 1000 51 (inL A_r6_ValidAccum vs)).outL)
theorem L_r6_ValidAccum_is (vs : List Value) : L_r6_ValidAccum vs = (evF Tryz.prog [S_r1_Full, S_r1_ValidPixel] 1000 51 (inL A_r6_ValidAccum vs)).outL := Classical.choose_spec (veil _) vs
noncomputable def S_r6_ValidAccum : Sum := ⟨51, L_r6_ValidAccum, A_r6_ValidAccum, R_r6_ValidAccum⟩
theorem ok_r6_ValidAccum : SumOK Tryz.prog InvN S_r6_ValidAccum := sumOK_evV invN_stays (allOK_cons ok_r1_Full.any (allOK_cons ok_r1_ValidPixel allOK_nil)) 1000 51 A_r6_ValidAccum R_r6_ValidAccum L_r6_ValidAccum_is (fun _ => by kernel_rfl)
noncomputable def F_r6_ValidAccum (p0 p1 p2 p3 p4 p5 p6 p7 p8 p9 p10 p11 : Int) : Bool := (fun l => tru (l.getD 0 undef)) (L_r6_ValidAccum [.int .u16 p0, .int .u16 p1, .int .u16 p2, .int .u16 p3, .int .u16 p4, .int .u16 p5, .int .u16 p6, .int .u16 p7, .int .u16 p8, .int .u16 p9, .int .u16 p10, .int .u16 p11])
theorem F_r6_ValidAccum_eq (p0 p1 p2 p3 p4 p5 p6 p7 p8 p9 p10 p11 : Int) : F_r6_ValidAccum p0 p1 p2 p3 p4 p5 p6 p7 p8 p9 p10 p11 =
 bif (decide (p0 > p3)) then
 (false)
 else
 (bif (decide (p1 > p3)) then
 (false)
 else
 (bif (decide (p2 > p3)) then
 (false)
 else
 (let x0 := F_r1_Full p11
 bif x0 then
 (bif (decide (p4 ≤ p3)) then
 (bif (decide (p4 ≤ p5)) then
 (bif (decide (p3 ≤ p11)) then
 (bif (decide (p5 ≤ p11)) then
 (let x1 := F_r1_ValidPixel p6 p7 p8 p9 p10 p11
 bif x1 then
 ((p10 == p9))
 else
 (false))
 else
 (false))
 else
 (false))
 else
 (false))
 else
 (false))
 else
 (false)))) :=
 spellV (L := L_r6_ValidAccum) (fun l => tru (l.getD 0 undef)) (evF Tryz.prog [S_r1_Full, S_r1_ValidPixel] 1000 51 (inL A_r6_ValidAccum [.int .u16 p0, .int .u16 p1, .int .u16 p2, .int .u16 p3, .int .u16 p4, .int .u16 p5, .int .u16 p6, .int .u16 p7, .int .u16 p8, .int .u16 p9, .int .u16 p10, .int .u16 p11])) (L_r6_ValidAccum_is _) (by kernel_rfl)
def A_r6_Begin : List PS := [.c (.b), .c (.b), .agg [.i .u16, .i .u16, .i .u16, .i .u16, .i .u16, .i .u16], .agg [.i .u16, .i .u16, .i .u16, .i .u16, .i .u16]]
def R_r6_Begin : RS := .tup [.agg [.i .u16, .i .u16, .i .u16, .i .u16, .i .u16, .i .u16], .agg [.i .u16, .i .u16, .i .u16, .i .u16, .i .u16]]
noncomputable def L_r6_Begin : List Value → List Value := Classical.choose (veil fun vs => (evF Tryz.prog [] 1000 41 (inL A_r6_Begin vs)).outL)
theorem L_r6_Begin_is (vs : List Value) : L_r6_Begin vs = (evF Tryz.prog [] 1000 41 (inL A_r6_Begin vs)).outL := Classical.choose_spec (veil _) vs
noncomputable def S_r6_Begin : Sum := ⟨41, L_r6_Begin, A_r6_Begin, R_r6_Begin⟩
theorem ok_r6_Begin : SumOK Tryz.prog InvN S_r6_Begin := sumOK_evV invN_stays allOK_nil 1000 41 A_r6_Begin R_r6_Begin L_r6_Begin_is (fun _ => by kernel_rfl)
noncomputable def F_r6_Begin (p0 p1 : Bool) (p2 p3 p4 p5 p6 p7 p8 p9 p10 p11 p12 : Int) : Int × Int × Int × Int × Int × Int × Int × Int × Int × Int × Int := (fun l => (num (l.getD 0 undef), num (l.getD 1 undef), num (l.getD 2 undef), num (l.getD 3 undef), num (l.getD 4 undef), num (l.getD 5 undef), num (l.getD 6 undef), num (l.getD 7 undef), num (l.getD 8 undef), num (l.getD 9 undef), num (l.getD 10 undef))) (L_r6_Begin [.bool p0, .bool p1, .int .u16 p2, .int .u16 p3, .int .u16 p4, .int .u16 p5, .int .u16 p6, .int .u16 p7, .int .u16 p8, .int .u16 p9, .int .u16 p10, .int .u16 p11, .int .u16 p12])
theorem F_r6_Begin_eq (p0 p1 : Bool) (p2 p3 p4 p5 p6 p7 p8 p9 p10 p11 p12 : Int) : F_r6_Begin p0 p1 p2 p3 p4 p5 p6 p7 p8 p9 p10 p11 p12 =
 bif (!p0) then
 (bif p1 then
 ((p8, p9, p10, p11, 0, 0, p8, p9, p10, p11, p12))
 else
 ((p2, p3, p4, p5, 0, 0, p2, p3, p4, p5, p5)))
 else
 ((0, 0, 0, 0, 0, 0, 0, 0, 0, 0, 0)) :=
 spellV (L := L_r6_Begin) (fun l => (num (l.getD 0 undef), num (l.getD 1 undef), num (l.getD 2 undef), num (l.getD 3 undef), num (l.getD 4 undef), num (l.getD 5 undef), num (l.getD 6 undef), num (l.getD 7 undef), num (l.getD 8 undef), num (l.getD 9 undef), num (l.getD 10 undef))) (evF Tryz.prog [] 1000 41 (inL A_r6_Begin [.bool p0, .bool p1, .int .u16 p2, .int .u16 p3, .int .u16 p4, .int .u16 p5, .int .u16 p6, .int .u16 p7, .int .u16 p8, .int .u16 p9, .int .u16 p10, .int .u16 p11, .int .u16 p12])) (L_r6_Begin_is _) (by kernel_rfl)
def A_r6_Step : List PS := [.c (.b), .c (.i .i64), .c (.i .i64), .c (.i .u16), .agg [.i .u16, .i .u16, .i .u16, .i .u16, .i .u16], .agg [.i .u16, .i .u16, .i .u16, .i .u16, .i .u16, .i .u16], .agg [.i .u16, .i .u16, .i .u16, .i .u16, .i .u16]]
def R_r6_Step : RS := .tup [.agg [.i .u16, .i .u16, .i .u16, .i .u16, .i .u16, .i .u16], .c (.b)]
noncomputable def L_r6_Step : List Value → List Value := Classical.choose (veil fun vs => (evF Tryz.prog [S_r6_IsMode, S_r6_KnockColor, S_r6_KnockAlpha, S_r6_KnockOwn, S_r6_IsOp, S_r6_Color, S_r1_ValidPixel, S_r6_Alpha, S_r6_Shape, S_r6_ValidAccum] 1000 54 (inL A_r6_Step vs)).outL)
theorem L_r6_Step_is (vs : List Value) : L_r6_Step vs = (evF Tryz.prog [S_r6_IsMode, S_r6_KnockColor, S_r6_KnockAlpha, S_r6_KnockOwn, S_r6_IsOp, S_r6_Color, S_r1_ValidPixel, S_r6_Alpha, S_r6_Shape, S_r6_ValidAccum] 1000 54 (inL A_r6_Step vs)).outL := Classical.choose_spec (veil _) vs
noncomputable def S_r6_Step : Sum := ⟨54, L_r6_Step, A_r6_Step, R_r6_Step⟩
theorem ok_r6_Step : SumOK Tryz.prog InvN S_r6_Step := sumOK_evV invN_stays (allOK_cons ok_r6_IsMode.any (allOK_cons ok_r6_KnockColor.any (allOK_cons ok_r6_KnockAlpha.any (allOK_cons ok_r6_KnockOwn.any (allOK_cons ok_r6_IsOp (allOK_cons ok_r6_Color (allOK_cons ok_r1_ValidPixel (allOK_cons ok_r6_Alpha (allOK_cons ok_r6_Shape (allOK_cons ok_r6_ValidAccum allOK_nil)))))))))) 1000 54 A_r6_Step R_r6_Step L_r6_Step_is (fun _ => by kernel_rfl)
noncomputable def F_r6_Step (p0 : Bool) (p1 p2 p3 p4 p5 p6 p7 p8 p9 p10 p11 p12 p13 p14 p15 p16 p17 p18 p19 : Int) : Int × Int × Int × Int × Int × Int × Bool := (fun l => (num (l.getD 0 undef), num (l.getD 1 undef), num (l.getD 2 undef), num (l.getD 3 undef), num (l.getD 4 undef), num (l.getD 5 undef), tru (l.getD 6 undef))) (L_r6_Step [.bool p0, .int .i64 p1, .int .i64 p2, .int .u16 p3, .int .u16 p4, .int .u16 p5, .int .u16 p6, .int .u16 p7, .int .u16 p8, .int .u16 p9, .int .u16 p10, .int .u16 p11, .int .u16 p12, .int .u16 p13, .int .u16 p14, .int .u16 p15, .int .u16 p16, .int .u16 p17, .int .u16 p18, .int .u16 p19])
theorem F_r6_Step_eq (p0 : Bool) (p1 p2 p3 p4 p5 p6 p7 p8 p9 p10 p11 p12 p13 p14 p15 p16 p17 p18 p19 : Int) : F_r6_Step p0 p1 p2 p3 p4 p5 p6 p7 p8 p9 p10 p11 p12 p13 p14 p15 p16 p17 p18 p19 =
 let x0 := F_r6_IsOp p1
 bif (!x0) then
 ((0, 0, 0, 0, 0, 0, false))
 else
 (let x1 := F_r6_IsMode p2
 bif (!x1) then
 ((0, 0, 0, 0, 0, 0, false))
 else
 (let x2 := F_r6_ValidAccum p9 p10 p11 p12 p13 p14 p15 p16 p17 p18 p19 p3
 bif (!x2) then
 ((0, 0, 0, 0, 0, 0, false))
 else
 (let x3 := F_r1_ValidPixel p4 p5 p6 p7 p8 p3
 bif (!x3) then
 ((0, 0, 0, 0, 0, 0, false))
 else
 (bif p0 then
 (bif (p1 != 4) then
 ((0, 0, 0, 0, 0, 0, false))
 else
 (bif p0 then
 (bif p0 then
 (bif p0 then
 (bif p0 then
 (let x4 := F_r6_KnockColor p2 p3 p4 p7 p8 p9 p15 p18
 let x5 := F_r6_KnockColor p2 p3 p5 p7 p8 p10 p16 p18
 let x6 := F_r6_KnockColor p2 p3 p6 p7 p8 p11 p17 p18
 let x7 := F_r6_KnockAlpha p3 p7 p8 p12 p18
 let x8 := F_r6_KnockOwn p3 p7 p8 p13
 let x9 := F_r6_Shape p1 p8 p14 p3
 (x4.1, x5.1, x6.1, x7.1, x8.1, x9, true))
 else
 (let x10 := F_r6_KnockColor p2 p3 p4 p7 p8 p9 p15 p18
 let x11 := F_r6_KnockColor p2 p3 p5 p7 p8 p10 p16 p18
 let x12 := F_r6_KnockColor p2 p3 p6 p7 p8 p11 p17 p18
 let x13 := F_r6_Alpha p1 p7 p12 p3
 let x14 := F_r6_Alpha p1 p7 p13 p3
 let x15 := F_r6_Shape p1 p8 p14 p3
 (x10.1, x11.1, x12.1, x13, x14, x15, true)))
 else
 (bif p0 then
 (let x16 := F_r6_KnockColor p2 p3 p4 p7 p8 p9 p15 p18
 let x17 := F_r6_KnockColor p2 p3 p5 p7 p8 p10 p16 p18
 let x18 := F_r6_Color p1 p2 p3 p6 p7 p11 p12
 let x19 := F_r6_KnockAlpha p3 p7 p8 p12 p18
 let x20 := F_r6_KnockOwn p3 p7 p8 p13
 let x21 := F_r6_Shape p1 p8 p14 p3
 (x16.1, x17.1, x18.1, x19.1, x20.1, x21, true))
 else
 (let x22 := F_r6_KnockColor p2 p3 p4 p7 p8 p9 p15 p18
 let x23 := F_r6_KnockColor p2 p3 p5 p7 p8 p10 p16 p18
 let x24 := F_r6_Color p1 p2 p3 p6 p7 p11 p12
 let x25 := F_r6_Alpha p1 p7 p12 p3
 let x26 := F_r6_Alpha p1 p7 p13 p3
 let x27 := F_r6_Shape p1 p8 p14 p3
 (x22.1, x23.1, x24.1, x25, x26, x27, true))))
 else
 (bif p0 then
 (bif p0 then
 (let x28 := F_r6_KnockColor p2 p3 p4 p7 p8 p9 p15 p18
 let x29 := F_r6_Color p1 p2 p3 p5 p7 p10 p12
 let x30 := F_r6_KnockColor p2 p3 p6 p7 p8 p11 p17 p18
 let x31 := F_r6_KnockAlpha p3 p7 p8 p12 p18
 let x32 := F_r6_KnockOwn p3 p7 p8 p13
 let x33 := F_r6_Shape p1 p8 p14 p3
 (x28.1, x29.1, x30.1, x31.1, x32.1, x33, true))
 else
 (let x34 := F_r6_KnockColor p2 p3 p4 p7 p8 p9 p15 p18
 let x35 := F_r6_Color p1 p2 p3 p5 p7 p10 p12
 let x36 := F_r6_KnockColor p2 p3 p6 p7 p8 p11 p17 p18
 let x37 := F_r6_Alpha p1 p7 p12 p3
 let x38 := F_r6_Alpha p1 p7 p13 p3
 let x39 := F_r6_Shape p1 p8 p14 p3
 (x34.1, x35.1, x36.1, x37, x38, x39, true)))
 else
 (bif p0 then
 (let x40 := F_r6_KnockColor p2 p3 p4 p7 p8 p9 p15 p18
 let x41 := F_r6_Color p1 p2 p3 p5 p7 p10 p12
 let x42 := F_r6_Color p1 p2 p3 p6 p7 p11 p12
 let x43 := F_r6_KnockAlpha p3 p7 p8 p12 p18
 let x44 := F_r6_KnockOwn p3 p7 p8 p13
 let x45 := F_r6_Shape p1 p8 p14 p3
 (x40.1, x41.1, x42.1, x43.1, x44.1, x45, true))
 else
 (let x46 := F_r6_KnockColor p2 p3 p4 p7 p8 p9 p15 p18
 let x47 := F_r6_Color p1 p2 p3 p5 p7 p10 p12
 let x48 := F_r6_Color p1 p2 p3 p6 p7 p11 p12
 let x49 := F_r6_Alpha p1 p7 p12 p3
 let x50 := F_r6_Alpha p1 p7 p13 p3
 let x51 := F_r6_Shape p1 p8 p14 p3
 (x46.1, x47.1, x48.1, x49, x50, x51, true)))))
 else
 (bif p0 then
 (bif p0 then
 (bif p0 then
 (let x52 := F_r6_Color p1 p2 p3 p4 p7 p9 p12
 let x53 := F_r6_KnockColor p2 p3 p5 p7 p8 p10 p16 p18
 let x54 := F_r6_KnockColor p2 p3 p6 p7 p8 p11 p17 p18
 let x55 := F_r6_KnockAlpha p3 p7 p8 p12 p18
 let x56 := F_r6_KnockOwn p3 p7 p8 p13
 let x57 := F_r6_Shape p1 p8 p14 p3
 (x52.1, x53.1, x54.1, x55.1, x56.1, x57, true))
 else
 (let x58 := F_r6_Color p1 p2 p3 p4 p7 p9 p12
 let x59 := F_r6_KnockColor p2 p3 p5 p7 p8 p10 p16 p18
 let x60 := F_r6_KnockColor p2 p3 p6 p7 p8 p11 p17 p18
 let x61 := F_r6_Alpha p1 p7 p12 p3
 let x62 := F_r6_Alpha p1 p7 p13 p3
 let x63 := F_r6_Shape p1 p8 p14 p3
 (x58.1, x59.1, x60.1, x61, x62, x63, true)))
 else
 (bif p0 then
 (let x64 := F_r6_Color p1 p2 p3 p4 p7 p9 p12
 let x65 := F_r6_KnockColor p2 p3 p5 p7 p8 p10 p16 p18
 let x66 := F_r6_Color p1 p2 p3 p6 p7 p11 p12
 let x67 := F_r6_KnockAlpha p3 p7 p8 p12 p18
 let x68 := F_r6_KnockOwn p3 p7 p8 p13
 let x69 := F_r6_Shape p1 p8 p14 p3
 (x64.1, x65.1, x66.1, x67.1, x68.1, x69, true))
 else
 (let x70 := F_r6_Color p1 p2 p3 p4 p7 p9 p12
 let x71 := F_r6_KnockColor p2 p3 p5 p7 p8 p10 p16 p18
 let x72 := F_r6_Color p1 p2 p3 p6 p7 p11 p12
 let x73 := F_r6_Alpha p1 p7 p12 p3
 let x74 := F_r6_Alpha p1 p7 p13 p3
 let x75 := F_r6_Shape p1 p8 p14 p3
 (x70.1, x71.1, x72.1, x73, x74, x75, true))))
 else
 (bif p0 then
 (bif p0 then
 (let x76 := F_r6_Color p1 p2 p3 p4 p7 p9 p12
 let x77 := F_r6_Color p1 p2 p3 p5 p7 p10 p12
 let x78 := F_r6_KnockColor p2 p3 p6 p7 p8 p11 p17 p18
 let x79 := F_r6_KnockAlpha p3 p7 p8 p12 p18
 let x80 := F_r6_KnockOwn p3 p7 p8 p13
 let x81 := F_r6_Shape p1 p8 p14 p3
 (x76.1, x77.1, x78.1, x79.1, x80.1, x81, true))
 else
 (let x82 := F_r6_Color p1 p2 p3 p4 p7 p9 p12
 let x83 := F_r6_Color p1 p2 p3 p5 p7 p10 p12
 let x84 := F_r6_KnockColor p2 p3 p6 p7 p8 p11 p17 p18
 let x85 := F_r6_Alpha p1 p7 p12 p3
 let x86 := F_r6_Alpha p1 p7 p13 p3
 let x87 := F_r6_Shape p1 p8 p14 p3
 (x82.1, x83.1, x84.1, x85, x86, x87, true)))
 else
 (bif p0 then
 (let x88 := F_r6_Color p1 p2 p3 p4 p7 p9 p12
 let x89 := F_r6_Color p1 p2 p3 p5 p7 p10 p12
 let x90 := F_r6_Color p1 p2 p3 p6 p7 p11 p12
 let x91 := F_r6_KnockAlpha p3 p7 p8 p12 p18
 let x92 := F_r6_KnockOwn p3 p7 p8 p13
 let x93 := F_r6_Shape p1 p8 p14 p3
 (x88.1, x89.1, x90.1, x91.1, x92.1, x93, true))
 else
 (let x94 := F_r6_Color p1 p2 p3 p4 p7 p9 p12
 let x95 := F_r6_Color p1 p2 p3 p5 p7 p10 p12
 let x96 := F_r6_Color p1 p2 p3 p6 p7 p11 p12
 let x97 := F_r6_Alpha p1 p7 p12 p3
 let x98 := F_r6_Alpha p1 p7 p13 p3
 let x99 := F_r6_Shape p1 p8 p14 p3
 (x94.1, x95.1, x96.1, x97, x98, x99, true)))))))
 else
 (bif p0 then
 (bif p0 then
 (bif p0 then
 (bif p0 then
 (let x100 := F_r6_KnockColor p2 p3 p4 p7 p8 p9 p15 p18
 let x101 := F_r6_KnockColor p2 p3 p5 p7 p8 p10 p16 p18
 let x102 := F_r6_KnockColor p2 p3 p6 p7 p8 p11 p17 p18
 let x103 := F_r6_KnockAlpha p3 p7 p8 p12 p18
 let x104 := F_r6_KnockOwn p3 p7 p8 p13
 let x105 := F_r6_Shape p1 p8 p14 p3
 (x100.1, x101.1, x102.1, x103.1, x104.1, x105, true))
 else
 (let x106 := F_r6_KnockColor p2 p3 p4 p7 p8 p9 p15 p18
 let x107 := F_r6_KnockColor p2 p3 p5 p7 p8 p10 p16 p18
 let x108 := F_r6_KnockColor p2 p3 p6 p7 p8 p11 p17 p18
 let x109 := F_r6_Alpha p1 p7 p12 p3
 let x110 := F_r6_Alpha p1 p7 p13 p3
 let x111 := F_r6_Shape p1 p8 p14 p3
 (x106.1, x107.1, x108.1, x109, x110, x111, true)))
 else
 (bif p0 then
 (let x112 := F_r6_KnockColor p2 p3 p4 p7 p8 p9 p15 p18
 let x113 := F_r6_KnockColor p2 p3 p5 p7 p8 p10 p16 p18
 let x114 := F_r6_Color p1 p2 p3 p6 p7 p11 p12
 let x115 := F_r6_KnockAlpha p3 p7 p8 p12 p18
 let x116 := F_r6_KnockOwn p3 p7 p8 p13
 let x117 := F_r6_Shape p1 p8 p14 p3
 (x112.1, x113.1, x114.1, x115.1, x116.1, x117, true))
 else
 (let x118 := F_r6_KnockColor p2 p3 p4 p7 p8 p9 p15 p18
 let x119 := F_r6_KnockColor p2 p3 p5 p7 p8 p10 p16 p18
 let x120 := F_r6_Color p1 p2 p3 p6 p7 p11 p12
 let x121 := F_r6_Alpha p1 p7 p12 p3
 let x122 := F_r6_Alpha p1 p7 p13 p3
 let x123 := F_r6_Shape p1 p8 p14 p3
 (x118.1, x119.1, x120.1, x121, x122, x123, true))))
 else
 (bif p0 then
 (bif p0 then
 (let x124 := F_r6_KnockColor p2 p3 p4 p7 p8 p9 p15 p18
 let x125 := F_r6_Color p1 p2 p3 p5 p7 p10 p12
 let x126 := F_r6_KnockColor p2 p3 p6 p7 p8 p11 p17 p18
 let x127 := F_r6_KnockAlpha p3 p7 p8 p12 p18
 let x128 := F_r6_KnockOwn p3 p7 p8 p13
 let x129 := F_r6_Shape p1 p8 p14 p3
 (x124.1, x125.1, x126.1, x127.1, x128.1, x129, true))
 else
 (let x130 := F_r6_KnockColor p2 p3 p4 p7 p8 p9 p15 p18
 let x131 := F_r6_Color p1 p2 p3 p5 p7 p10 p12
 let x132 := F_r6_KnockColor p2 p3 p6 p7 p8 p11 p17 p18
 let x133 := F_r6_Alpha p1 p7 p12 p3
 let x134 := F_r6_Alpha p1 p7 p13 p3
 let x135 := F_r6_Shape p1 p8 p14 p3
 (x130.1, x131.1, x132.1, x133, x134, x135, true)))
 else
 (bif p0 then
 (let x136 := F_r6_KnockColor p2 p3 p4 p7 p8 p9 p15 p18
 let x137 := F_r6_Color p1 p2 p3 p5 p7 p10 p12
 let x138 := F_r6_Color p1 p2 p3 p6 p7 p11 p12
 let x139 := F_r6_KnockAlpha p3 p7 p8 p12 p18
 let x140 := F_r6_KnockOwn p3 p7 p8 p13
 let x141 := F_r6_Shape p1 p8 p14 p3
 (x136.1, x137.1, x138.1, x139.1, x140.1, x141, true))
 else
 (let x142 := F_r6_KnockColor p2 p3 p4 p7 p8 p9 p15 p18
 let x143 := F_r6_Color p1 p2 p3 p5 p7 p10 p12
 let x144 := F_r6_Color p1 p2 p3 p6 p7 p11 p12
 let x145 := F_r6_Alpha p1 p7 p12 p3
 let x146 := F_r6_Alpha p1 p7 p13 p3
 let x147 := F_r6_Shape p1 p8 p14 p3
 (x142.1, x143.1, x144.1, x145, x146, x147, true)))))
 else
 (bif p0 then
 (bif p0 then
 (bif p0 then
 (let x148 := F_r6_Color p1 p2 p3 p4 p7 p9 p12
 let x149 := F_r6_KnockColor p2 p3 p5 p7 p8 p10 p16 p18
 let x150 := F_r6_KnockColor p2 p3 p6 p7 p8 p11 p17 p18
 let x151 := F_r6_KnockAlpha p3 p7 p8 p12 p18
 let x152 := F_r6_KnockOwn p3 p7 p8 p13
 let x153 := F_r6_Shape p1 p8 p14 p3
 (x148.1, x149.1, x150.1, x151.1, x152.1, x153, true))
 else
 (let x154 := F_r6_Color p1 p2 p3 p4 p7 p9 p12
 let x155 := F_r6_KnockColor p2 p3 p5 p7 p8 p10 p16 p18
 let x156 := F_r6_KnockColor p2 p3 p6 p7 p8 p11 p17 p18
 let x157 := F_r6_Alpha p1 p7 p12 p3
 let x158 := F_r6_Alpha p1 p7 p13 p3
 let x159 := F_r6_Shape p1 p8 p14 p3
 (x154.1, x155.1, x156.1, x157, x158, x159, true)))
 else
 (bif p0 then
 (let x160 := F_r6_Color p1 p2 p3 p4 p7 p9 p12
 let x161 := F_r6_KnockColor p2 p3 p5 p7 p8 p10 p16 p18
 let x162 := F_r6_Color p1 p2 p3 p6 p7 p11 p12
 let x163 := F_r6_KnockAlpha p3 p7 p8 p12 p18
 let x164 := F_r6_KnockOwn p3 p7 p8 p13
 let x165 := F_r6_Shape p1 p8 p14 p3
 (x160.1, x161.1, x162.1, x163.1, x164.1, x165, true))
 else
 (let x166 := F_r6_Color p1 p2 p3 p4 p7 p9 p12
 let x167 := F_r6_KnockColor p2 p3 p5 p7 p8 p10 p16 p18
 let x168 := F_r6_Color p1 p2 p3 p6 p7 p11 p12
 let x169 := F_r6_Alpha p1 p7 p12 p3
 let x170 := F_r6_Alpha p1 p7 p13 p3
 let x171 := F_r6_Shape p1 p8 p14 p3
 (x166.1, x167.1, x168.1, x169, x170, x171, true))))
 else
 (bif p0 then
 (bif p0 then
 (let x172 := F_r6_Color p1 p2 p3 p4 p7 p9 p12
 let x173 := F_r6_Color p1 p2 p3 p5 p7 p10 p12
 let x174 := F_r6_KnockColor p2 p3 p6 p7 p8 p11 p17 p18
 let x175 := F_r6_KnockAlpha p3 p7 p8 p12 p18
 let x176 := F_r6_KnockOwn p3 p7 p8 p13
 let x177 := F_r6_Shape p1 p8 p14 p3
 (x172.1, x173.1, x174.1, x175.1, x176.1, x177, true))
 else
 (let x178 := F_r6_Color p1 p2 p3 p4 p7 p9 p12
 let x179 := F_r6_Color p1 p2 p3 p5 p7 p10 p12
 let x180 := F_r6_KnockColor p2 p3 p6 p7 p8 p11 p17 p18
 let x181 := F_r6_Alpha p1 p7 p12 p3
 let x182 := F_r6_Alpha p1 p7 p13 p3
 let x183 := F_r6_Shape p1 p8 p14 p3
 (x178.1, x179.1, x180.1, x181, x182, x183, true)))
 else
 (bif p0 then
 (let x184 := F_r6_Color p1 p2 p3 p4 p7 p9 p12
 let x185 := F_r6_Color p1 p2 p3 p5 p7 p10 p12
 let x186 := F_r6_Color p1 p2 p3 p6 p7 p11 p12
 let x187 := F_r6_KnockAlpha p3 p7 p8 p12 p18
 let x188 := F_r6_KnockOwn p3 p7 p8 p13
 let x189 := F_r6_Shape p1 p8 p14 p3
 (x184.1, x185.1, x186.1, x187.1, x188.1, x189, true))
 else
 (let x190 := F_r6_Color p1 p2 p3 p4 p7 p9 p12
 let x191 := F_r6_Color p1 p2 p3 p5 p7 p10 p12
 let x192 := F_r6_Color p1 p2 p3 p6 p7 p11 p12
 let x193 := F_r6_Alpha p1 p7 p12 p3
 let x194 := F_r6_Alpha p1 p7 p13 p3
 let x195 := F_r6_Shape p1 p8 p14 p3
 (x190.1, x191.1, x192.1, x193, x194, x195, true)))))))))) :=
 spellV (L := L_r6_Step) (fun l => (num (l.getD 0 undef), num (l.getD 1 undef), num (l.getD 2 undef), num (l.getD 3 undef), num (l.getD 4 undef), num (l.getD 5 undef), tru (l.getD 6 undef))) (evF Tryz.prog [S_r6_IsMode, S_r6_KnockColor, S_r6_KnockAlpha, S_r6_KnockOwn, S_r6_IsOp, S_r6_Color, S_r1_ValidPixel, S_r6_Alpha, S_r6_Shape, S_r6_ValidAccum] 1000 54 (inL A_r6_Step [.bool p0, .int .i64 p1, .int .i64 p2, .int .u16 p3, .int .u16 p4, .int .u16 p5, .int .u16 p6, .int .u16 p7, .int .u16 p8, .int .u16 p9, .int .u16 p10, .int .u16 p11, .int .u16 p12, .int .u16 p13, .int .u16 p14, .int .u16 p15, .int .u16 p16, .int .u16 p17, .int .u16 p18, .int .u16 p19])) (L_r6_Step_is _) (by kernel_rfl)
def A_r6_Result : List PS := [.agg [.i .u16, .i .u16, .i .u16, .i .u16, .i .u16, .i .u16], .agg [.i .u16, .i .u16, .i .u16, .i .u16, .i .u16], .c (.i .u16)]
def R_r6_Result : RS := .tup [.agg [.i .u16, .i .u16, .i .u16, .i .u16, .i .u16], .c (.b)]
noncomputable def L_r6_Result : List Value → List Value := Classical.choose (veil fun vs => (evF Tryz.prog [S_r1_Half, S_r6_ValidAccum] 1000 43 (inL A_r6_Result vs)).outL)
theorem L_r6_Result_is (vs : List Value) : L_r6_Result vs = (evF Tryz.prog [S_r1_Half, S_r6_ValidAccum] 1000 43 (inL A_r6_Result vs)).outL := Classical.choose_spec (veil _) vs
noncomputable def S_r6_Result : Sum := ⟨43, L_r6_Result, A_r6_Result, R_r6_Result⟩
theorem ok_r6_Result : SumOK Tryz.prog InvN S_r6_Result := sumOK_evV invN_stays (allOK_cons ok_r1_Half.any (allOK_cons ok_r6_ValidAccum allOK_nil)) 1000 43 A_r6_Result R_r6_Result L_r6_Result_is (fun _ => by kernel_rfl)
noncomputable def F_r6_Result (p0 p1 p2 p3 p4 p5 p6 p7 p8 p9 p10 p11 : Int) : Int × Int × Int × Int × Int × Bool := (fun l => (num (l.getD 0 undef), num (l.getD 1 undef), num (l.getD 2 undef), num (l.getD 3 undef), num (l.getD 4 undef), tru (l.getD 5 undef))) (L_r6_Result [.int .u16 p0, .int .u16 p1, .int .u16 p2, .int .u16 p3, .int .u16 p4, .int .u16 p5, .int .u16 p6, .int .u16 p7, .int .u16 p8, .int .u16 p9, .int .u16 p10, .int .u16 p11])
theorem F_r6_Result_eq (p0 p1 p2 p3 p4 p5 p6 p7 p8 p9 p10 p11 : Int) : F_r6_Result p0 p1 p2 p3 p4 p5 p6 p7 p8 p9 p10 p11 =
 let x0 := F_r6_ValidAccum p0 p1 p2 p3 p4 p5 p6 p7 p8 p9 p10 p11
 bif (!x0) then
 ((0, 0, 0, 0, 0, false))
 else
 (bif (decide ((IntKind.u64.wrap (p11 * p0)) > (IntKind.u64.wrap ((IntKind.u64.wrap (p11 - p4)) * p6)))) then
 (bif (decide ((IntKind.u64.wrap (p11 * p1)) > (IntKind.u64.wrap ((IntKind.u64.wrap (p11 - p4)) * p7)))) then
 (bif (decide ((IntKind.u64.wrap (p11 * p2)) > (IntKind.u64.wrap ((IntKind.u64.wrap (p11 - p4)) * p8)))) then
 (let x1 := F_r1_Half (IntKind.u64.wrap ((IntKind.u64.wrap (p11 * p0)) - (IntKind.u64.wrap ((IntKind.u64.wrap (p11 - p4)) * p6)))) p11
 let x2 := F_r1_Half (IntKind.u64.wrap ((IntKind.u64.wrap (p11 * p1)) - (IntKind.u64.wrap ((IntKind.u64.wrap (p11 - p4)) * p7)))) p11
 let x3 := F_r1_Half (IntKind.u64.wrap ((IntKind.u64.wrap (p11 * p2)) - (IntKind.u64.wrap ((IntKind.u64.wrap (p11 - p4)) * p8)))) p11
 ((IntKind.u16.wrap (if p4 < x1 then p4 else x1)), (IntKind.u16.wrap (if p4 < x2 then p4 else x2)), (IntKind.u16.wrap (if p4 < x3 then p4 else x3)), p4, p5, true))
 else
 (let x4 := F_r1_Half (IntKind.u64.wrap ((IntKind.u64.wrap (p11 * p0)) - (IntKind.u64.wrap ((IntKind.u64.wrap (p11 - p4)) * p6)))) p11
 let x5 := F_r1_Half (IntKind.u64.wrap ((IntKind.u64.wrap (p11 * p1)) - (IntKind.u64.wrap ((IntKind.u64.wrap (p11 - p4)) * p7)))) p11
 ((IntKind.u16.wrap (if p4 < x4 then p4 else x4)), (IntKind.u16.wrap (if p4 < x5 then p4 else x5)), 0, p4, p5, true)))
 else
 (bif (decide ((IntKind.u64.wrap (p11 * p2)) > (IntKind.u64.wrap ((IntKind.u64.wrap (p11 - p4)) * p8)))) then
 (let x6 := F_r1_Half (IntKind.u64.wrap ((IntKind.u64.wrap (p11 * p0)) - (IntKind.u64.wrap ((IntKind.u64.wrap (p11 - p4)) * p6)))) p11
 let x7 := F_r1_Half (IntKind.u64.wrap ((IntKind.u64.wrap (p11 * p2)) - (IntKind.u64.wrap ((IntKind.u64.wrap (p11 - p4)) * p8)))) p11
 ((IntKind.u16.wrap (if p4 < x6 then p4 else x6)), 0, (IntKind.u16.wrap (if p4 < x7 then p4 else x7)), p4, p5, true))
 else
 (let x8 := F_r1_Half (IntKind.u64.wrap ((IntKind.u64.wrap (p11 * p0)) - (IntKind.u64.wrap ((IntKind.u64.wrap (p11 - p4)) * p6)))) p11
 ((IntKind.u16.wrap (if p4 < x8 then p4 else x8)), 0, 0, p4, p5, true))))
 else
 (bif (decide ((IntKind.u64.wrap (p11 * p1)) > (IntKind.u64.wrap ((IntKind.u64.wrap (p11 - p4)) * p7)))) then
 (bif (decide ((IntKind.u64.wrap (p11 * p2)) > (IntKind.u64.wrap ((IntKind.u64.wrap (p11 - p4)) * p8)))) then
 (let x9 := F_r1_Half (IntKind.u64.wrap ((IntKind.u64.wrap (p11 * p1)) - (IntKind.u64.wrap ((IntKind.u64.wrap (p11 - p4)) * p7)))) p11
 let x10 := F_r1_Half (IntKind.u64.wrap ((IntKind.u64.wrap (p11 * p2)) - (IntKind.u64.wrap ((IntKind.u64.wrap (p11 - p4)) * p8)))) p11
 (0, (IntKind.u16.wrap (if p4 < x9 then p4 else x9)), (IntKind.u16.wrap (if p4 < x10 then p4 else x10)), p4, p5, true))
 else
 (let x11 := F_r1_Half (IntKind.u64.wrap ((IntKind.u64.wrap (p11 * p1)) - (IntKind.u64.wrap ((IntKind.u64.wrap (p11 - p4)) * p7)))) p11
 (0, (IntKind.u16.wrap (if p4 < x11 then p4 else x11)), 0, p4, p5, true)))
 else
 (bif (decide ((IntKind.u64.wrap (p11 * p2)) > (IntKind.u64.wrap ((IntKind.u64.wrap (p11 - p4)) * p8)))) then
 (let x12 := F_r1_Half (IntKind.u64.wrap ((IntKind.u64.wrap (p11 * p2)) - (IntKind.u64.wrap ((IntKind.u64.wrap (p11 - p4)) * p8)))) p11
 (0, 0, (IntKind.u16.wrap (if p4 < x12 then p4 else x12)), p4, p5, true))
 else
 ((0, 0, 0, p4, p5, true))))) :=
 spellV (L := L_r6_Result) (fun l => (num (l.getD 0 undef), num (l.getD 1 undef), num (l.getD 2 undef), num (l.getD 3 undef), num (l.getD 4 undef), tru (l.getD 5 undef))) (evF Tryz.prog [S_r1_Half, S_r6_ValidAccum] 1000 43 (inL A_r6_Result [.int .u16 p0, .int .u16 p1, .int .u16 p2, .int .u16 p3, .int .u16 p4, .int .u16 p5, .int .u16 p6, .int .u16 p7, .int .u16 p8, .int .u16 p9, .int .u16 p10, .int .u16 p11])) (L_r6_Result_is _) (by kernel_rfl)
end Go.Proofs.YtdioaiepkhepaaaGreatDoor
