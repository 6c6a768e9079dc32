/- What the functions of chapter 09 compute. Printed by a program (gen/Gen.lean); what each function does is told by the evaluator, and the kernel checks it. No condition. -/
import Derived.Test.YtdioaiepkhepaaaGreatDoorSm08
import Derived.KernelRfl
namespace Go.Proofs.YtdioaiepkhepaaaGreatDoor
open Go.RowKit
def A_sample_Valid : List PS := [.agg [.i .u16, .i .u16, .i .u16, .i .u16, .i .u16], .c (.i .u16)]
def R_sample_Valid : RS := .one (.c (.b))
noncomputable def L_sample_Valid : List Value → List Value := Classical.choose (veil fun vs => (evF Tryz.prog [] 1000 34 (inL A_sample_Valid vs)).outL)
theorem L_sample_Valid_is (vs : List Value) : L_sample_Valid vs = (evF Tryz.prog [] 1000 34 (inL A_sample_Valid vs)).outL := Classical.choose_spec (veil _) vs
noncomputable def S_sample_Valid : Sum := ⟨34, L_sample_Valid, A_sample_Valid, R_sample_Valid⟩
theorem ok_sample_Valid : SumOK Tryz.prog InvN S_sample_Valid := sumOK_evV invN_stays allOK_nil 1000 34 A_sample_Valid R_sample_Valid L_sample_Valid_is (fun _ => by kernel_rfl)
noncomputable def F_sample_Valid (p0 p1 p2 p3 p4 p5 : Int) : Bool := (fun l => tru (l.getD 0 undef)) (L_sample_Valid [.int .u16 p0, .int .u16 p1, .int .u16 p2, .int .u16 p3, .int .u16 p4, .int .u16 p5])
theorem F_sample_Valid_eq (p0 p1 p2 p3 p4 p5 : Int) : F_sample_Valid p0 p1 p2 p3 p4 p5 =
 bif (decide (p0 > p3)) then
 (false)
 else
 (bif (decide (p1 > p3)) then
 (false)
 else
 (bif (decide (p2 > p3)) then
 (false)
 else
 (bif (decide (p3 ≤ p4)) then
 ((decide (p4 ≤ p5)))
 else
 (false)))) :=
 spellV (L := L_sample_Valid) (fun l => tru (l.getD 0 undef)) (evF Tryz.prog [] 1000 34 (inL A_sample_Valid [.int .u16 p0, .int .u16 p1, .int .u16 p2, .int .u16 p3, .int .u16 p4, .int .u16 p5])) (L_sample_Valid_is _) (by kernel_rfl)
def A_r1_ValidPixel : List PS := [.agg [.i .u16, .i .u16, .i .u16, .i .u16, .i .u16], .c (.i .u16)]
def R_r1_ValidPixel : RS := .one (.c (.b))
noncomputable def L_r1_ValidPixel : List Value → List Value := Classical.choose (veil fun vs => (evF Tryz.prog [] 1000 62 (inL A_r1_ValidPixel vs)).outL)
theorem L_r1_ValidPixel_is (vs : List Value) : L_r1_ValidPixel vs = (evF Tryz.prog [] 1000 62 (inL A_r1_ValidPixel vs)).outL := Classical.choose_spec (veil _) vs
noncomputable def S_r1_ValidPixel : Sum := ⟨62, L_r1_ValidPixel, A_r1_ValidPixel, R_r1_ValidPixel⟩
theorem ok_r1_ValidPixel : SumOK Tryz.prog InvN S_r1_ValidPixel := sumOK_evV invN_stays allOK_nil 1000 62 A_r1_ValidPixel R_r1_ValidPixel L_r1_ValidPixel_is (fun _ => by kernel_rfl)
noncomputable def F_r1_ValidPixel (p0 p1 p2 p3 p4 p5 : Int) : Bool := (fun l => tru (l.getD 0 undef)) (L_r1_ValidPixel [.int .u16 p0, .int .u16 p1, .int .u16 p2, .int .u16 p3, .int .u16 p4, .int .u16 p5])
theorem F_r1_ValidPixel_eq (p0 p1 p2 p3 p4 p5 : Int) : F_r1_ValidPixel p0 p1 p2 p3 p4 p5 =
 bif (decide (p0 ≤ p3)) then
 (bif (decide (p1 ≤ p3)) then
 (bif (decide (p2 ≤ p3)) then
 (bif (decide (p3 ≤ p4)) then
 ((decide (p4 ≤ p5)))
 else
 (false))
 else
 (false))
 else
 (false))
 else
 (false) :=
 spellV (L := L_r1_ValidPixel) (fun l => tru (l.getD 0 undef)) (evF Tryz.prog [] 1000 62 (inL A_r1_ValidPixel [.int .u16 p0, .int .u16 p1, .int .u16 p2, .int .u16 p3, .int .u16 p4, .int .u16 p5])) (L_r1_ValidPixel_is _) (by kernel_rfl)
def A_r6_Alpha : List PS := [.c (.i .i64), .c (.i .u16), .c (.i .u16), .c (.i .u16)]
def R_r6_Alpha : RS := .one (.c (.i .u16))
noncomputable def L_r6_Alpha : List Value → List Value := Classical.choose (veil fun vs => (evF Tryz.prog [S_r1_Half, S_r6_Factors] 1000 71 (inL A_r6_Alpha vs)).outL)
theorem L_r6_Alpha_is (vs : List Value) : L_r6_Alpha vs = (evF Tryz.prog [S_r1_Half, S_r6_Factors] 1000 71 (inL A_r6_Alpha vs)).outL := Classical.choose_spec (veil _) vs
noncomputable def S_r6_Alpha : Sum := ⟨71, L_r6_Alpha, A_r6_Alpha, R_r6_Alpha⟩
theorem ok_r6_Alpha : SumOK Tryz.prog InvN S_r6_Alpha := sumOK_evV invN_stays (allOK_cons ok_r1_Half.any (allOK_cons ok_r6_Factors allOK_nil)) 1000 71 A_r6_Alpha R_r6_Alpha L_r6_Alpha_is (fun _ => by kernel_rfl)
noncomputable def F_r6_Alpha (p0 p1 p2 p3 : Int) : Int := (fun l => num (l.getD 0 undef)) (L_r6_Alpha [.int .i64 p0, .int .u16 p1, .int .u16 p2, .int .u16 p3])
theorem F_r6_Alpha_eq (p0 p1 p2 p3 : Int) : F_r6_Alpha p0 p1 p2 p3 =
 let x0 := F_r6_Factors p0 p1 p2 p3
 let x1 := F_r1_Half (IntKind.u64.wrap ((IntKind.u64.wrap (x0.1 * p1)) + (IntKind.u64.wrap (x0.2.1 * p2)))) p3
 (IntKind.u16.wrap x1) :=
 spellV (L := L_r6_Alpha) (fun l => num (l.getD 0 undef)) (evF Tryz.prog [S_r1_Half, S_r6_Factors] 1000 71 (inL A_r6_Alpha [.int .i64 p0, .int .u16 p1, .int .u16 p2, .int .u16 p3])) (L_r6_Alpha_is _) (by kernel_rfl)
def A_r6_Shape : List PS := [.c (.i .i64), .c (.i .u16), .c (.i .u16), .c (.i .u16)]
def R_r6_Shape : RS := .one (.c (.i .u16))
noncomputable def L_r6_Shape : List Value → List Value := Classical.choose (veil fun vs => (evF Tryz.prog [S_r1_Half, S_r6_IsOp] 1000 66 (inL A_r6_Shape vs)).outL)
theorem L_r6_Shape_is (vs : List Value) : L_r6_Shape vs = (evF Tryz.prog [S_r1_Half, S_r6_IsOp] 1000 66 (inL A_r6_Shape vs)).outL := Classical.choose_spec (veil _) vs
noncomputable def S_r6_Shape : Sum := ⟨66, L_r6_Shape, A_r6_Shape, R_r6_Shape⟩
theorem ok_r6_Shape : SumOK Tryz.prog InvN S_r6_Shape := sumOK_evV invN_stays (allOK_cons ok_r1_Half.any (allOK_cons ok_r6_IsOp allOK_nil)) 1000 66 A_r6_Shape R_r6_Shape L_r6_Shape_is (fun _ => by kernel_rfl)
noncomputable def F_r6_Shape (p0 p1 p2 p3 : Int) : Int := (fun l => num (l.getD 0 undef)) (L_r6_Shape [.int .i64 p0, .int .u16 p1, .int .u16 p2, .int .u16 p3])
theorem F_r6_Shape_eq (p0 p1 p2 p3 : Int) : F_r6_Shape p0 p1 p2 p3 =
 let x0 := F_r6_IsOp p0
 bif (!x0) then
 (0)
 else
 (bif (decide (p1 > p3)) then
 (0)
 else
 (bif (decide (p2 > p3)) then
 (0)
 else
 (bif (p0 == 2) then
 (p1)
 else
 (bif (p0 == 8) then
 (p1)
 else
 (bif (p0 == 11) then
 (p1)
 else
 (bif (p0 == 3) then
 (p2)
 else
 (bif (p0 == 9) then
 (p2)
 else
 (bif (p0 == 10) then
 (p2)
 else
 (bif (p0 == 4) then
 (let x1 := F_r1_Half (IntKind.u64.wrap ((IntKind.u64.wrap (p3 * p1)) + (IntKind.u64.wrap ((IntKind.u64.wrap (p3 - p1)) * p2)))) p3
 (IntKind.u16.wrap x1))
 else
 (bif (p0 == 5) then
 (let x2 := F_r1_Half (IntKind.u64.wrap ((IntKind.u64.wrap (p3 * p1)) + (IntKind.u64.wrap ((IntKind.u64.wrap (p3 - p1)) * p2)))) p3
 (IntKind.u16.wrap x2))
 else
 (bif (p0 == 12) then
 (let x3 := F_r1_Half (IntKind.u64.wrap ((IntKind.u64.wrap (p3 * p1)) + (IntKind.u64.wrap ((IntKind.u64.wrap (p3 - p1)) * p2)))) p3
 (IntKind.u16.wrap x3))
 else
 (bif (p0 == 6) then
 (let x4 := F_r1_Half (IntKind.u64.wrap (p1 * p2)) p3
 (IntKind.u16.wrap x4))
 else
 (bif (p0 == 7) then
 (let x5 := F_r1_Half (IntKind.u64.wrap (p1 * p2)) p3
 (IntKind.u16.wrap x5))
 else
 (0)))))))))))))) :=
 spellV (L := L_r6_Shape) (fun l => num (l.getD 0 undef)) (evF Tryz.prog [S_r1_Half, S_r6_IsOp] 1000 66 (inL A_r6_Shape [.int .i64 p0, .int .u16 p1, .int .u16 p2, .int .u16 p3])) (L_r6_Shape_is _) (by kernel_rfl)
def A_gen_Pixel : List PS := [.agg [.i .i64, .i .i64, .i .i64, .i .i64, .i .i64], .c (.i .u16)]
def R_gen_Pixel : RS := .one (.agg [.i .u16, .i .u16, .i .u16, .i .u16, .i .u16])
noncomputable def L_gen_Pixel : List Value → List Value := Classical.choose (veil fun vs => (evF Tryz.prog [S_gen_Mod, S_gen_Sample] 1000 13 (inL A_gen_Pixel vs)).outL)
theorem L_gen_Pixel_is (vs : List Value) : L_gen_Pixel vs = (evF Tryz.prog [S_gen_Mod, S_gen_Sample] 1000 13 (inL A_gen_Pixel vs)).outL := Classical.choose_spec (veil _) vs
noncomputable def S_gen_Pixel : Sum := ⟨13, L_gen_Pixel, A_gen_Pixel, R_gen_Pixel⟩
theorem ok_gen_Pixel : SumOK Tryz.prog InvN S_gen_Pixel := sumOK_evV invN_stays (allOK_cons ok_gen_Mod.any (allOK_cons ok_gen_Sample.any allOK_nil)) 1000 13 A_gen_Pixel R_gen_Pixel L_gen_Pixel_is (fun _ => by kernel_rfl)
noncomputable def F_gen_Pixel (p0 p1 p2 p3 p4 p5 : Int) : Int × Int × Int × Int × Int := (fun l => (num (l.getD 0 undef), num (l.getD 1 undef), num (l.getD 2 undef), num (l.getD 3 undef), num (l.getD 4 undef))) (L_gen_Pixel [.int .i64 p0, .int .i64 p1, .int .i64 p2, .int .i64 p3, .int .i64 p4, .int .u16 p5])
theorem F_gen_Pixel_eq (p0 p1 p2 p3 p4 p5 : Int) : F_gen_Pixel p0 p1 p2 p3 p4 p5 =
 let x0 := F_gen_Mod p3 3
 bif (decide (x0 > 0)) then
 (let x1 := F_gen_Sample p4 p5
 let x2 := F_gen_Sample (IntKind.i64.wrap (Int.tdiv p3 3)) x1
 let x3 := F_gen_Sample p0 x2
 let x4 := F_gen_Sample p1 x2
 let x5 := F_gen_Sample p2 x2
 (x3, x4, x5, x2, x1))
 else
 (let x6 := F_gen_Sample p4 p5
 let x7 := F_gen_Sample p0 x6
 let x8 := F_gen_Sample p1 x6
 let x9 := F_gen_Sample p2 x6
 (x7, x8, x9, x6, x6)) :=
 spellV (L := L_gen_Pixel) (fun l => (num (l.getD 0 undef), num (l.getD 1 undef), num (l.getD 2 undef), num (l.getD 3 undef), num (l.getD 4 undef))) (evF Tryz.prog [S_gen_Mod, S_gen_Sample] 1000 13 (inL A_gen_Pixel [.int .i64 p0, .int .i64 p1, .int .i64 p2, .int .i64 p3, .int .i64 p4, .int .u16 p5])) (L_gen_Pixel_is _) (by kernel_rfl)
end Go.Proofs.YtdioaiepkhepaaaGreatDoor
