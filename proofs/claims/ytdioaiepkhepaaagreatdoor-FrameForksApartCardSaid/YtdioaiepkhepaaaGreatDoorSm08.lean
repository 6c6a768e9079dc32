/- What the functions of the chapters 07 and 08 compute. Printed by a program (gen/Gen.lean); what each function does is told by the evaluator, and the kernel checks it. No condition. -/
import Derived.Test.YtdioaiepkhepaaaGreatDoorRules
import Derived.Test.YtdioaiepkhepaaaGreatDoorSm10
import Derived.Test.YtdioaiepkhepaaaGreatDoorLaw03
import Derived.KernelRfl
namespace Go.Proofs.YtdioaiepkhepaaaGreatDoor
open Go.RowKit
def A_operator_factor : List PS := [.c (.i .i64), .c (.i .u16), .c (.i .u16)]
def R_operator_factor : RS := .one (.c (.i .u16))
noncomputable def L_operator_factor : List Value → List Value := Classical.choose (veil fun vs => (evF Tryz.prog [] 1000 95 (inL A_operator_factor vs)).outL)
theorem L_operator_factor_is (vs : List Value) : L_operator_factor vs = (evF Tryz.prog [] 1000 95 (inL A_operator_factor vs)).outL := Classical.choose_spec (veil _) vs
noncomputable def S_operator_factor : Sum := ⟨95, L_operator_factor, A_operator_factor, R_operator_factor⟩
theorem ok_operator_factor : SumOK Tryz.prog InvN S_operator_factor := sumOK_evV invN_stays allOK_nil 1000 95 A_operator_factor R_operator_factor L_operator_factor_is (fun _ => by kernel_rfl)
noncomputable def F_operator_factor (p0 p1 p2 : Int) : Int := (fun l => num (l.getD 0 undef)) (L_operator_factor [.int .i64 p0, .int .u16 p1, .int .u16 p2])
theorem F_operator_factor_eq (p0 p1 p2 : Int) : F_operator_factor p0 p1 p2 =
 bif (p0 == 1) then
 (p2)
 else
 (bif (p0 == 2) then
 (p1)
 else
 (bif (p0 == 3) then
 ((IntKind.u16.wrap (p2 - p1)))
 else
 (0))) :=
 spellV (L := L_operator_factor) (fun l => num (l.getD 0 undef)) (evF Tryz.prog [] 1000 95 (inL A_operator_factor [.int .i64 p0, .int .u16 p1, .int .u16 p2])) (L_operator_factor_is _) (by kernel_rfl)
def A_operator_Factors : List PS := [.c (.i .i64), .c (.i .u16), .c (.i .u16), .c (.i .u16)]
def R_operator_Factors : RS := .tup [.c (.i .u16), .c (.i .u16), .c (.b)]
noncomputable def L_operator_Factors : List Value → List Value := Classical.choose (veil fun vs => (evF Tryz.prog [S_operator_find, S_operator_factor] 1000 77 (inL A_operator_Factors vs)).outL)
theorem L_operator_Factors_is (vs : List Value) : L_operator_Factors vs = (evF Tryz.prog [S_operator_find, S_operator_factor] 1000 77 (inL A_operator_Factors vs)).outL := Classical.choose_spec (veil _) vs
noncomputable def S_operator_Factors : Sum := ⟨77, L_operator_Factors, A_operator_Factors, R_operator_Factors⟩
theorem ok_operator_Factors : SumOK Tryz.prog InvN S_operator_Factors := sumOK_evV invN_stays (allOK_cons ok_operator_find (allOK_cons ok_operator_factor allOK_nil)) 1000 77 A_operator_Factors R_operator_Factors L_operator_Factors_is (fun _ => by kernel_rfl)
noncomputable def F_operator_Factors (p0 p1 p2 p3 : Int) : Int × Int × Bool := (fun l => (num (l.getD 0 undef), num (l.getD 1 undef), tru (l.getD 2 undef))) (L_operator_Factors [.int .i64 p0, .int .u16 p1, .int .u16 p2, .int .u16 p3])
theorem F_operator_Factors_eq (p0 p1 p2 p3 : Int) : F_operator_Factors p0 p1 p2 p3 =
 let x0 := F_operator_find p0
 bif (!x0.2.2.2.2) then
 ((0, 0, false))
 else
 (bif (decide (p1 > p3)) then
 ((0, 0, false))
 else
 (bif (decide (p2 > p3)) then
 ((0, 0, false))
 else
 (let x1 := F_operator_factor x0.2.1 p2 p3
 let x2 := F_operator_factor x0.2.2.1 p1 p3
 (x1, x2, true)))) :=
 spellV (L := L_operator_Factors) (fun l => (num (l.getD 0 undef), num (l.getD 1 undef), tru (l.getD 2 undef))) (evF Tryz.prog [S_operator_find, S_operator_factor] 1000 77 (inL A_operator_Factors [.int .i64 p0, .int .u16 p1, .int .u16 p2, .int .u16 p3])) (L_operator_Factors_is _) (by kernel_rfl)
def A_operator_sum : List PS := [.c (.i .u16), .c (.i .u16), .c (.i .u16), .c (.i .u16), .c (.i .u16)]
def R_operator_sum : RS := .one (.c (.i .u16))
noncomputable def L_operator_sum : List Value → List Value := Classical.choose (veil fun vs => (evF Tryz.prog [S_round_Half] 1000 78 (inL A_operator_sum vs)).outL)
theorem L_operator_sum_is (vs : List Value) : L_operator_sum vs = (evF Tryz.prog [S_round_Half] 1000 78 (inL A_operator_sum vs)).outL := Classical.choose_spec (veil _) vs
noncomputable def S_operator_sum : Sum := ⟨78, L_operator_sum, A_operator_sum, R_operator_sum⟩
theorem ok_operator_sum : SumOK Tryz.prog InvN S_operator_sum := sumOK_evV invN_stays (allOK_cons ok_round_Half.any allOK_nil) 1000 78 A_operator_sum R_operator_sum L_operator_sum_is (fun _ => by kernel_rfl)
noncomputable def F_operator_sum (p0 p1 p2 p3 p4 : Int) : Int := (fun l => num (l.getD 0 undef)) (L_operator_sum [.int .u16 p0, .int .u16 p1, .int .u16 p2, .int .u16 p3, .int .u16 p4])
theorem F_operator_sum_eq (p0 p1 p2 p3 p4 : Int) : F_operator_sum p0 p1 p2 p3 p4 =
 let x0 := F_round_Half (IntKind.u64.wrap ((IntKind.u64.wrap (p0 * p1)) + (IntKind.u64.wrap (p2 * p3)))) p4
 (IntKind.u16.wrap x0) :=
 spellV (L := L_operator_sum) (fun l => num (l.getD 0 undef)) (evF Tryz.prog [S_round_Half] 1000 78 (inL A_operator_sum [.int .u16 p0, .int .u16 p1, .int .u16 p2, .int .u16 p3, .int .u16 p4])) (L_operator_sum_is _) (by kernel_rfl)
def A_operator_Alpha : List PS := [.c (.i .i64), .c (.i .u16), .c (.i .u16), .c (.i .u16)]
def R_operator_Alpha : RS := .one (.c (.i .u16))
noncomputable def L_operator_Alpha : List Value → List Value := Classical.choose (veil fun vs => (evF Tryz.prog [S_operator_Factors, S_operator_sum] 1000 59 (inL A_operator_Alpha vs)).outL)
theorem L_operator_Alpha_is (vs : List Value) : L_operator_Alpha vs = (evF Tryz.prog [S_operator_Factors, S_operator_sum] 1000 59 (inL A_operator_Alpha vs)).outL := Classical.choose_spec (veil _) vs
noncomputable def S_operator_Alpha : Sum := ⟨59, L_operator_Alpha, A_operator_Alpha, R_operator_Alpha⟩
theorem ok_operator_Alpha : SumOK Tryz.prog InvN S_operator_Alpha := sumOK_evV invN_stays (allOK_cons ok_operator_Factors (allOK_cons ok_operator_sum allOK_nil)) 1000 59 A_operator_Alpha R_operator_Alpha L_operator_Alpha_is (fun _ => by kernel_rfl)
noncomputable def F_operator_Alpha (p0 p1 p2 p3 : Int) : Int := (fun l => num (l.getD 0 undef)) (L_operator_Alpha [.int .i64 p0, .int .u16 p1, .int .u16 p2, .int .u16 p3])
theorem F_operator_Alpha_eq (p0 p1 p2 p3 : Int) : F_operator_Alpha p0 p1 p2 p3 =
 let x0 := F_operator_Factors p0 p1 p2 p3
 let x1 := F_operator_sum x0.1 p1 x0.2.1 p2 p3
 x1 :=
 spellV (L := L_operator_Alpha) (fun l => num (l.getD 0 undef)) (evF Tryz.prog [S_operator_Factors, S_operator_sum] 1000 59 (inL A_operator_Alpha [.int .i64 p0, .int .u16 p1, .int .u16 p2, .int .u16 p3])) (L_operator_Alpha_is _) (by kernel_rfl)
def A_operator_Shape : List PS := [.c (.i .i64), .c (.i .u16), .c (.i .u16), .c (.i .u16)]
def R_operator_Shape : RS := .one (.c (.i .u16))
noncomputable def L_operator_Shape : List Value → List Value := Classical.choose (veil fun vs => (evF Tryz.prog [S_operator_find, S_operator_sum] 1000 60 (inL A_operator_Shape vs)).outL)
theorem L_operator_Shape_is (vs : List Value) : L_operator_Shape vs = (evF Tryz.prog [S_operator_find, S_operator_sum] 1000 60 (inL A_operator_Shape vs)).outL := Classical.choose_spec (veil _) vs
noncomputable def S_operator_Shape : Sum := ⟨60, L_operator_Shape, A_operator_Shape, R_operator_Shape⟩
theorem ok_operator_Shape : SumOK Tryz.prog InvN S_operator_Shape := sumOK_evV invN_stays (allOK_cons ok_operator_find (allOK_cons ok_operator_sum allOK_nil)) 1000 60 A_operator_Shape R_operator_Shape L_operator_Shape_is (fun _ => by kernel_rfl)
noncomputable def F_operator_Shape (p0 p1 p2 p3 : Int) : Int := (fun l => num (l.getD 0 undef)) (L_operator_Shape [.int .i64 p0, .int .u16 p1, .int .u16 p2, .int .u16 p3])
theorem F_operator_Shape_eq (p0 p1 p2 p3 : Int) : F_operator_Shape p0 p1 p2 p3 =
 bif (decide (p1 > p3)) then
 (0)
 else
 (bif (decide (p2 > p3)) then
 (0)
 else
 (bif (p3 == 0) then
 (0)
 else
 (let x0 := F_operator_find p0
 bif (x0.2.2.2.1 == 1) then
 (p1)
 else
 (bif (x0.2.2.2.1 == 2) then
 (p2)
 else
 (bif (x0.2.2.2.1 == 3) then
 (let x1 := F_operator_sum p3 p1 (IntKind.u16.wrap (p3 - p1)) p2 p3
 x1)
 else
 (bif (x0.2.2.2.1 == 4) then
 (let x2 := F_operator_sum p1 p2 0 0 p3
 x2)
 else
 (0))))))) :=
 spellV (L := L_operator_Shape) (fun l => num (l.getD 0 undef)) (evF Tryz.prog [S_operator_find, S_operator_sum] 1000 60 (inL A_operator_Shape [.int .i64 p0, .int .u16 p1, .int .u16 p2, .int .u16 p3])) (L_operator_Shape_is _) (by kernel_rfl)
def A_mix_Value : List PS := [.c (.i .i64), .c (.i .i64), .c (.i .u16), .c (.i .u16), .c (.i .u16), .c (.i .u16), .c (.i .u16)]
def R_mix_Value : RS := .tup [.agg [.i .u64, .i .u64, .i .u64, .i .u64, .i .u64], .c (.b)]
noncomputable def L_mix_Value : List Value → List Value := Classical.choose (veil fun vs => (evF Tryz.prog [S_wide_Add, S_wide_Mul, S_blend_Exact, S_operator_Factors] 1000 75 (inL A_mix_Value vs)).outL)
theorem L_mix_Value_is (vs : List Value) : L_mix_Value vs = (evF Tryz.prog [S_wide_Add, S_wide_Mul, S_blend_Exact, S_operator_Factors] 1000 75 (inL A_mix_Value vs)).outL := Classical.choose_spec (veil _) vs
noncomputable def S_mix_Value : Sum := ⟨75, L_mix_Value, A_mix_Value, R_mix_Value⟩
theorem ok_mix_Value : SumOK Tryz.prog InvN S_mix_Value := sumOK_evV invN_stays (allOK_cons ok_wide_Add.any (allOK_cons ok_wide_Mul.any (allOK_cons ok_blend_Exact.any (allOK_cons ok_operator_Factors allOK_nil)))) 1000 75 A_mix_Value R_mix_Value L_mix_Value_is (fun _ => by kernel_rfl)
noncomputable def F_mix_Value (p0 p1 p2 p3 p4 p5 p6 : Int) : Int × Int × Int × Int × Int × Bool := (fun l => (num (l.getD 0 undef), num (l.getD 1 undef), num (l.getD 2 undef), num (l.getD 3 undef), num (l.getD 4 undef), tru (l.getD 5 undef))) (L_mix_Value [.int .i64 p0, .int .i64 p1, .int .u16 p2, .int .u16 p3, .int .u16 p4, .int .u16 p5, .int .u16 p6])
theorem F_mix_Value_eq (p0 p1 p2 p3 p4 p5 p6 : Int) : F_mix_Value p0 p1 p2 p3 p4 p5 p6 =
 let x0 := F_operator_Factors p0 p4 p6 p2
 bif (!x0.2.2) then
 ((0, 0, 0, 0, 0, false))
 else
 (let x1 := F_blend_Exact p1 p3 p4 p5 p6
 bif (!x1.2.2.2.2.2) then
 ((0, 0, 0, 0, 0, false))
 else
 (bif (p2 != 255) then
 (bif (p2 != 65535) then
 ((0, 0, 0, 0, 0, false))
 else
 (let x2 := F_wide_Mul (IntKind.u64.wrap ((IntKind.u64.wrap ((IntKind.u64.wrap ((IntKind.u16.wrap (p2 - p6)) * p3)) * x1.2.2.2.2.1)) + x1.2.1)) x0.1
 let x3 := F_wide_Mul (IntKind.u64.wrap ((IntKind.u64.wrap (p5 * p2)) * x1.2.2.2.2.1)) x0.2.1
 let x4 := F_wide_Add x2.1 x2.2 x3.1 x3.2
 (x4.1, x4.2.1, (IntKind.u64.wrap (x0.1 * x1.2.2.1)), x1.2.2.2.1, (IntKind.u64.wrap ((IntKind.u64.wrap (p2 * p2)) * x1.2.2.2.2.1)), true)))
 else
 (let x5 := F_wide_Mul (IntKind.u64.wrap ((IntKind.u64.wrap ((IntKind.u64.wrap ((IntKind.u16.wrap (p2 - p6)) * p3)) * x1.2.2.2.2.1)) + x1.2.1)) x0.1
 let x6 := F_wide_Mul (IntKind.u64.wrap ((IntKind.u64.wrap (p5 * p2)) * x1.2.2.2.2.1)) x0.2.1
 let x7 := F_wide_Add x5.1 x5.2 x6.1 x6.2
 (x7.1, x7.2.1, (IntKind.u64.wrap (x0.1 * x1.2.2.1)), x1.2.2.2.1, (IntKind.u64.wrap ((IntKind.u64.wrap (p2 * p2)) * x1.2.2.2.2.1)), true)))) :=
 spellV (L := L_mix_Value) (fun l => (num (l.getD 0 undef), num (l.getD 1 undef), num (l.getD 2 undef), num (l.getD 3 undef), num (l.getD 4 undef), tru (l.getD 5 undef))) (evF Tryz.prog [S_wide_Add, S_wide_Mul, S_blend_Exact, S_operator_Factors] 1000 75 (inL A_mix_Value [.int .i64 p0, .int .i64 p1, .int .u16 p2, .int .u16 p3, .int .u16 p4, .int .u16 p5, .int .u16 p6])) (L_mix_Value_is _) (by kernel_rfl)
def A_mix_Color : List PS := [.c (.i .i64), .c (.i .i64), .c (.i .u16), .c (.i .u16), .c (.i .u16), .c (.i .u16), .c (.i .u16)]
def R_mix_Color : RS := .tup [.c (.i .u16), .c (.b)]
noncomputable def L_mix_Color : List Value → List Value := Classical.choose (veil fun vs => (evF Tryz.prog [S_surd_Half, S_mix_Value] 1000 58 (inL A_mix_Color vs)).outL)
theorem L_mix_Color_is (vs : List Value) : L_mix_Color vs = (evF Tryz.prog [S_surd_Half, S_mix_Value] 1000 58 (inL A_mix_Color vs)).outL := Classical.choose_spec (veil _) vs
noncomputable def S_mix_Color : Sum := ⟨58, L_mix_Color, A_mix_Color, R_mix_Color⟩
theorem ok_mix_Color : SumOK Tryz.prog InvN S_mix_Color := sumOK_evV invN_stays (allOK_cons ok_surd_Half.any (allOK_cons ok_mix_Value allOK_nil)) 1000 58 A_mix_Color R_mix_Color L_mix_Color_is (fun _ => by kernel_rfl)
noncomputable def F_mix_Color (p0 p1 p2 p3 p4 p5 p6 : Int) : Int × Bool := (fun l => (num (l.getD 0 undef), tru (l.getD 1 undef))) (L_mix_Color [.int .i64 p0, .int .i64 p1, .int .u16 p2, .int .u16 p3, .int .u16 p4, .int .u16 p5, .int .u16 p6])
theorem F_mix_Color_eq (p0 p1 p2 p3 p4 p5 p6 : Int) : F_mix_Color p0 p1 p2 p3 p4 p5 p6 =
 let x0 := F_mix_Value p0 p1 p2 p3 p4 p5 p6
 bif (!x0.2.2.2.2.2) then
 ((0, false))
 else
 (let x1 := F_surd_Half x0.1 x0.2.1 x0.2.2.1 x0.2.2.2.1 x0.2.2.2.2.1
 ((IntKind.u16.wrap x1.1), x1.2)) :=
 spellV (L := L_mix_Color) (fun l => (num (l.getD 0 undef), tru (l.getD 1 undef))) (evF Tryz.prog [S_surd_Half, S_mix_Value] 1000 58 (inL A_mix_Color [.int .i64 p0, .int .i64 p1, .int .u16 p2, .int .u16 p3, .int .u16 p4, .int .u16 p5, .int .u16 p6])) (L_mix_Color_is _) (by kernel_rfl)
def A_r6_OpName : List PS := [.c (.i .i64)]
def R_r6_OpName : RS := .one (.c (.s))
noncomputable def L_r6_OpName : List Value → List Value := Classical.choose (veil fun vs => (evF Tryz.prog [] 1000 80 (inL A_r6_OpName vs)).outL)
theorem L_r6_OpName_is (vs : List Value) : L_r6_OpName vs = (evF Tryz.prog [] 1000 80 (inL A_r6_OpName vs)).outL := Classical.choose_spec (veil _) vs
noncomputable def S_r6_OpName : Sum := ⟨80, L_r6_OpName, A_r6_OpName, R_r6_OpName⟩
theorem okB_r6_OpName (p0 : Int) : (evF Tryz.prog [] 1000 80 (inL A_r6_OpName [.int .i64 p0])).ok =
 bif (decide (p0 < 1)) then
 (true)
 else
 (bif (decide (p0 ≥ 13)) then
 (true)
 else
 (bif (p0 == 0) then
 (true)
 else
 (bif (p0 == 1) then
 (true)
 else
 (bif (p0 == 2) then
 (true)
 else
 (bif (p0 == 3) then
 (true)
 else
 (bif (p0 == 4) then
 (true)
 else
 (bif (p0 == 5) then
 (true)
 else
 (bif (p0 == 6) then
 (true)
 else
 (bif (p0 == 7) then
 (true)
 else
 (bif (p0 == 8) then
 (true)
 else
 (bif (p0 == 9) then
 (true)
 else
 (bif (p0 == 10) then
 (true)
 else
 (bif (p0 == 11) then
 (true)
 else
 (bif (p0 == 12) then
 (true)
 else
 (false))))))))))))))) := (okR_eq _).trans (by kernel_rfl)
theorem okA_r6_OpName (h : ∀ p0 , IntKind.i64.min ≤ p0 → p0 ≤ IntKind.i64.max → (evF Tryz.prog [] 1000 80 (inL A_r6_OpName [.int .i64 p0])).ok = true) : SumOK Tryz.prog InvN S_r6_OpName := sumOK_partV invN_stays allOK_nil 1000 80 A_r6_OpName R_r6_OpName L_r6_OpName_is (fun _ => by kernel_rfl) (fun vs hk => by
 obtain ⟨_, _, rfl, ⟨p0, rfl, p0lo, p0hi⟩, rfl⟩ := hk
 exact h p0 p0lo p0hi )
theorem ok_r6_OpName : SumOK Tryz.prog InvN S_r6_OpName := okA_r6_OpName fun p0 _ _ => by
 rw [okB_r6_OpName]
 by_cases h1 : p0 < 1
 ·simp [h1]
 ·by_cases h2 : p0 ≥ 13
  ·simp [h2]
  ·have h : p0 = 1 ∨ p0 = 2 ∨ p0 = 3 ∨ p0 = 4 ∨ p0 = 5 ∨ p0 = 6 ∨ p0 = 7 ∨ p0 = 8 ∨ p0 = 9 ∨ p0 = 10 ∨ p0 = 11 ∨ p0 = 12 := by omega
   rcases h with rfl | rfl | rfl | rfl | rfl | rfl | rfl | rfl | rfl | rfl | rfl | rfl <;> rfl
noncomputable def F_r6_OpName (p0 : Int) : ByteArray := str ((L_r6_OpName [.int .i64 p0]).getD 0 undef)
theorem F_r6_OpName_eq (p0 : Int) : F_r6_OpName p0 =
 bif (decide (p0 < 1)) then
 ((ByteArray.mk #[]))
 else
 (bif (decide (p0 ≥ 13)) then
 ((ByteArray.mk #[]))
 else
 (bif (p0 == 0) then
 ((ByteArray.mk #[]))
 else
 (bif (p0 == 1) then
 ((ByteArray.mk #[99, 108, 101, 97, 114]))
 else
 (bif (p0 == 2) then
 ((ByteArray.mk #[115, 114, 99]))
 else
 (bif (p0 == 3) then
 ((ByteArray.mk #[100, 115, 116]))
 else
 (bif (p0 == 4) then
 ((ByteArray.mk #[115, 114, 99, 45, 111, 118, 101, 114]))
 else
 (bif (p0 == 5) then
 ((ByteArray.mk #[100, 115, 116, 45, 111, 118, 101, 114]))
 else
 (bif (p0 == 6) then
 ((ByteArray.mk #[115, 114, 99, 45, 105, 110]))
 else
 (bif (p0 == 7) then
 ((ByteArray.mk #[100, 115, 116, 45, 105, 110]))
 else
 (bif (p0 == 8) then
 ((ByteArray.mk #[115, 114, 99, 45, 111, 117, 116]))
 else
 (bif (p0 == 9) then
 ((ByteArray.mk #[100, 115, 116, 45, 111, 117, 116]))
 else
 (bif (p0 == 10) then
 ((ByteArray.mk #[115, 114, 99, 45, 97, 116, 111, 112]))
 else
 (bif (p0 == 11) then
 ((ByteArray.mk #[100, 115, 116, 45, 97, 116, 111, 112]))
 else
 (bif (p0 == 12) then
 ((ByteArray.mk #[120, 111, 114]))
 else
 ((str undef)))))))))))))))) :=
 spellV (L := L_r6_OpName) (fun l => str (l.getD 0 undef)) (evF Tryz.prog [] 1000 80 (inL A_r6_OpName [.int .i64 p0])) (L_r6_OpName_is _) (by kernel_rfl)
def A_r6_IsOp : List PS := [.c (.i .i64)]
def R_r6_IsOp : RS := .one (.c (.b))
noncomputable def L_r6_IsOp : List Value → List Value := Classical.choose (veil fun vs => (evF Tryz.prog [S_r6_OpName] 1000 64 (inL A_r6_IsOp vs)).outL)
theorem L_r6_IsOp_is (vs : List Value) : L_r6_IsOp vs = (evF Tryz.prog [S_r6_OpName] 1000 64 (inL A_r6_IsOp vs)).outL := Classical.choose_spec (veil _) vs
noncomputable def S_r6_IsOp : Sum := ⟨64, L_r6_IsOp, A_r6_IsOp, R_r6_IsOp⟩
theorem ok_r6_IsOp : SumOK Tryz.prog InvN S_r6_IsOp := sumOK_evV invN_stays (allOK_cons ok_r6_OpName allOK_nil) 1000 64 A_r6_IsOp R_r6_IsOp L_r6_IsOp_is (fun _ => by kernel_rfl)
noncomputable def F_r6_IsOp (p0 : Int) : Bool := (fun l => tru (l.getD 0 undef)) (L_r6_IsOp [.int .i64 p0])
theorem F_r6_IsOp_eq (p0 : Int) : F_r6_IsOp p0 =
 let x0 := F_r6_OpName p0
 (!(eqStr x0 (ByteArray.mk #[]))) :=
 spellV (L := L_r6_IsOp) (fun l => tru (l.getD 0 undef)) (evF Tryz.prog [S_r6_OpName] 1000 64 (inL A_r6_IsOp [.int .i64 p0])) (L_r6_IsOp_is _) (by kernel_rfl)
def A_r6_Factors : List PS := [.c (.i .i64), .c (.i .u16), .c (.i .u16), .c (.i .u16)]
def R_r6_Factors : RS := .tup [.c (.i .u16), .c (.i .u16), .c (.b)]
noncomputable def L_r6_Factors : List Value → List Value := Classical.choose (veil fun vs => (evF Tryz.prog [S_r6_IsOp] 1000 87 (inL A_r6_Factors vs)).outL)
theorem L_r6_Factors_is (vs : List Value) : L_r6_Factors vs = (evF Tryz.prog [S_r6_IsOp] 1000 87 (inL A_r6_Factors vs)).outL := Classical.choose_spec (veil _) vs
noncomputable def S_r6_Factors : Sum := ⟨87, L_r6_Factors, A_r6_Factors, R_r6_Factors⟩
theorem ok_r6_Factors : SumOK Tryz.prog InvN S_r6_Factors := sumOK_evV invN_stays (allOK_cons ok_r6_IsOp allOK_nil) 1000 87 A_r6_Factors R_r6_Factors L_r6_Factors_is (fun _ => by kernel_rfl)
noncomputable def F_r6_Factors (p0 p1 p2 p3 : Int) : Int × Int × Bool := (fun l => (num (l.getD 0 undef), num (l.getD 1 undef), tru (l.getD 2 undef))) (L_r6_Factors [.int .i64 p0, .int .u16 p1, .int .u16 p2, .int .u16 p3])
theorem F_r6_Factors_eq (p0 p1 p2 p3 : Int) : F_r6_Factors p0 p1 p2 p3 =
 let x0 := F_r6_IsOp p0
 bif (!x0) then
 ((0, 0, false))
 else
 (bif (decide (p1 > p3)) then
 ((0, 0, false))
 else
 (bif (decide (p2 > p3)) then
 ((0, 0, false))
 else
 (bif (p0 == 2) then
 ((p3, 0, true))
 else
 (bif (p0 == 3) then
 ((0, p3, true))
 else
 (bif (p0 == 4) then
 ((p3, (IntKind.u16.wrap (p3 - p1)), true))
 else
 (bif (p0 == 5) then
 (((IntKind.u16.wrap (p3 - p2)), p3, true))
 else
 (bif (p0 == 6) then
 ((p2, 0, true))
 else
 (bif (p0 == 7) then
 ((0, p1, true))
 else
 (bif (p0 == 8) then
 (((IntKind.u16.wrap (p3 - p2)), 0, true))
 else
 (bif (p0 == 9) then
 ((0, (IntKind.u16.wrap (p3 - p1)), true))
 else
 (bif (p0 == 10) then
 ((p2, (IntKind.u16.wrap (p3 - p1)), true))
 else
 (bif (p0 == 11) then
 (((IntKind.u16.wrap (p3 - p2)), p1, true))
 else
 (bif (p0 == 12) then
 (((IntKind.u16.wrap (p3 - p2)), (IntKind.u16.wrap (p3 - p1)), true))
 else
 ((0, 0, true))))))))))))))) :=
 spellV (L := L_r6_Factors) (fun l => (num (l.getD 0 undef), num (l.getD 1 undef), tru (l.getD 2 undef))) (evF Tryz.prog [S_r6_IsOp] 1000 87 (inL A_r6_Factors [.int .i64 p0, .int .u16 p1, .int .u16 p2, .int .u16 p3])) (L_r6_Factors_is _) (by kernel_rfl)
def A_r6_Value : List PS := [.c (.i .i64), .c (.i .i64), .c (.i .u16), .c (.i .u16), .c (.i .u16), .c (.i .u16), .c (.i .u16)]
def R_r6_Value : RS := .tup [.agg [.i .u64, .i .u64, .i .u64, .i .u64, .i .u64], .c (.b)]
noncomputable def L_r6_Value : List Value → List Value := Classical.choose (veil fun vs => (evF Tryz.prog [S_r1_Add, S_r1_MulSmall, S_r6_wide, S_r6_Blend, S_r1_Full, S_r6_Factors] 1000 86 (inL A_r6_Value vs)).outL)
theorem L_r6_Value_is (vs : List Value) : L_r6_Value vs = (evF Tryz.prog [S_r1_Add, S_r1_MulSmall, S_r6_wide, S_r6_Blend, S_r1_Full, S_r6_Factors] 1000 86 (inL A_r6_Value vs)).outL := Classical.choose_spec (veil _) vs
noncomputable def S_r6_Value : Sum := ⟨86, L_r6_Value, A_r6_Value, R_r6_Value⟩
theorem ok_r6_Value : SumOK Tryz.prog InvN S_r6_Value := sumOK_evV invN_stays (allOK_cons ok_r1_Add.any (allOK_cons ok_r1_MulSmall.any (allOK_cons ok_r6_wide.any (allOK_cons ok_r6_Blend.any (allOK_cons ok_r1_Full.any (allOK_cons ok_r6_Factors allOK_nil)))))) 1000 86 A_r6_Value R_r6_Value L_r6_Value_is (fun _ => by kernel_rfl)
noncomputable def F_r6_Value (p0 p1 p2 p3 p4 p5 p6 : Int) : Int × Int × Int × Int × Int × Bool := (fun l => (num (l.getD 0 undef), num (l.getD 1 undef), num (l.getD 2 undef), num (l.getD 3 undef), num (l.getD 4 undef), tru (l.getD 5 undef))) (L_r6_Value [.int .i64 p0, .int .i64 p1, .int .u16 p2, .int .u16 p3, .int .u16 p4, .int .u16 p5, .int .u16 p6])
theorem F_r6_Value_eq (p0 p1 p2 p3 p4 p5 p6 : Int) : F_r6_Value p0 p1 p2 p3 p4 p5 p6 =
 let x0 := F_r6_Blend p1 p3 p4 p5 p6
 bif (!x0.2.2.2.2.2) then
 ((0, 0, 0, 0, 0, false))
 else
 (let x1 := F_r6_Factors p0 p4 p6 p2
 bif (!x1.2.2) then
 ((0, 0, 0, 0, 0, false))
 else
 (let x2 := F_r1_Full p2
 bif (!x2) then
 ((0, 0, 0, 0, 0, false))
 else
 (let x3 := F_r1_MulSmall x0.1 x0.2.1 x1.1
 let x4 := F_r6_wide (IntKind.u64.wrap ((IntKind.u64.wrap (p2 - p6)) * p3)) x1.1 x0.2.2.2.2.1
 let x5 := F_r1_Add x3.1 x3.2.1 x4.1 x4.2
 let x6 := F_r6_wide (IntKind.u64.wrap (x1.2.1 * p5)) p2 x0.2.2.2.2.1
 let x7 := F_r1_Add x5.1 x5.2.1 x6.1 x6.2
 (x7.1, x7.2.1, (IntKind.u64.wrap (x1.1 * x0.2.2.1)), x0.2.2.2.1, (IntKind.u64.wrap ((IntKind.u64.wrap (p2 * p2)) * x0.2.2.2.2.1)), true)))) :=
 spellV (L := L_r6_Value) (fun l => (num (l.getD 0 undef), num (l.getD 1 undef), num (l.getD 2 undef), num (l.getD 3 undef), num (l.getD 4 undef), tru (l.getD 5 undef))) (evF Tryz.prog [S_r1_Add, S_r1_MulSmall, S_r6_wide, S_r6_Blend, S_r1_Full, S_r6_Factors] 1000 86 (inL A_r6_Value [.int .i64 p0, .int .i64 p1, .int .u16 p2, .int .u16 p3, .int .u16 p4, .int .u16 p5, .int .u16 p6])) (L_r6_Value_is _) (by kernel_rfl)
def A_r6_Color : List PS := [.c (.i .i64), .c (.i .i64), .c (.i .u16), .c (.i .u16), .c (.i .u16), .c (.i .u16), .c (.i .u16)]
def R_r6_Color : RS := .tup [.c (.i .u16), .c (.b)]
noncomputable def L_r6_Color : List Value → List Value := Classical.choose (veil fun vs => (evF Tryz.prog [S_r1_HalfExact, S_r6_Value] 1000 68 (inL A_r6_Color vs)).outL)
theorem L_r6_Color_is (vs : List Value) : L_r6_Color vs = (evF Tryz.prog [S_r1_HalfExact, S_r6_Value] 1000 68 (inL A_r6_Color vs)).outL := Classical.choose_spec (veil _) vs
noncomputable def S_r6_Color : Sum := ⟨68, L_r6_Color, A_r6_Color, R_r6_Color⟩
theorem ok_r6_Color : SumOK Tryz.prog InvN S_r6_Color := sumOK_evV invN_stays (allOK_cons ok_r1_HalfExact.any (allOK_cons ok_r6_Value allOK_nil)) 1000 68 A_r6_Color R_r6_Color L_r6_Color_is (fun _ => by kernel_rfl)
noncomputable def F_r6_Color (p0 p1 p2 p3 p4 p5 p6 : Int) : Int × Bool := (fun l => (num (l.getD 0 undef), tru (l.getD 1 undef))) (L_r6_Color [.int .i64 p0, .int .i64 p1, .int .u16 p2, .int .u16 p3, .int .u16 p4, .int .u16 p5, .int .u16 p6])
theorem F_r6_Color_eq (p0 p1 p2 p3 p4 p5 p6 : Int) : F_r6_Color p0 p1 p2 p3 p4 p5 p6 =
 let x0 := F_r6_Value p0 p1 p2 p3 p4 p5 p6
 bif (!x0.2.2.2.2.2) then
 ((0, false))
 else
 (let x1 := F_r1_HalfExact x0.1 x0.2.1 x0.2.2.1 x0.2.2.2.1 x0.2.2.2.2.1
 ((IntKind.u16.wrap x1.1), true)) :=
 spellV (L := L_r6_Color) (fun l => (num (l.getD 0 undef), tru (l.getD 1 undef))) (evF Tryz.prog [S_r1_HalfExact, S_r6_Value] 1000 68 (inL A_r6_Color [.int .i64 p0, .int .i64 p1, .int .u16 p2, .int .u16 p3, .int .u16 p4, .int .u16 p5, .int .u16 p6])) (L_r6_Color_is _) (by kernel_rfl)
end Go.Proofs.YtdioaiepkhepaaaGreatDoor
