/- What the functions of chapter 10 compute. Printed by a program (gen/Gen.lean); what each function does is told by the evaluator, and the kernel checks it. No condition. -/
import Derived.Test.YtdioaiepkhepaaaGreatDoorSm06
import Derived.Test.YtdioaiepkhepaaaGreatDoorLaw03
import Derived.KernelRfl
namespace Go.Proofs.YtdioaiepkhepaaaGreatDoor
open Go.RowKit
def A_r1_Full : List PS := [.c (.i .u16)]
def R_r1_Full : RS := .one (.c (.b))
noncomputable def L_r1_Full : List Value → List Value := Classical.choose (veil fun vs => (evF Tryz.prog [] 1000 19 (inL A_r1_Full vs)).outL)
theorem L_r1_Full_is (vs : List Value) : L_r1_Full vs = (evF Tryz.prog [] 1000 19 (inL A_r1_Full vs)).outL := Classical.choose_spec (veil _) vs
noncomputable def S_r1_Full : Sum := ⟨19, L_r1_Full, A_r1_Full, R_r1_Full⟩
theorem ok_r1_Full : SumOK Tryz.prog Inv S_r1_Full := sumOK_evV inv_stays allOK_nil 1000 19 A_r1_Full R_r1_Full L_r1_Full_is (fun _ => by kernel_rfl)
noncomputable def F_r1_Full (p0 : Int) : Bool := (fun l => tru (l.getD 0 undef)) (L_r1_Full [.int .u16 p0])
theorem F_r1_Full_eq (p0 : Int) : F_r1_Full p0 =
 bif (p0 == 255) then
 (true)
 else
 ((p0 == 65535)) :=
 spellV (L := L_r1_Full) (fun l => tru (l.getD 0 undef)) (evF Tryz.prog [] 1000 19 (inL A_r1_Full [.int .u16 p0])) (L_r1_Full_is _) (by kernel_rfl)
def A_round_Half : List PS := [.c (.i .u64), .c (.i .u64)]
def R_round_Half : RS := .one (.c (.i .u64))
noncomputable def L_round_Half : List Value → List Value := Classical.choose (veil fun vs => (evF Tryz.prog [] 1000 61 (inL A_round_Half vs)).outL)
theorem L_round_Half_is (vs : List Value) : L_round_Half vs = (evF Tryz.prog [] 1000 61 (inL A_round_Half vs)).outL := Classical.choose_spec (veil _) vs
noncomputable def S_round_Half : Sum := ⟨61, L_round_Half, A_round_Half, R_round_Half⟩
theorem okB_round_Half (p0 p1 : Int) : (evF Tryz.prog [] 1000 61 (inL A_round_Half [.int .u64 p0, .int .u64 p1])).ok =
 bif (p1 == 0) then
 (true)
 else
 (bif (p1 == 0) then
 (false)
 else
 (bif (p1 == 0) then
 (false)
 else
 (true))) := (okR_eq _).trans (by kernel_rfl)
theorem okA_round_Half (h : ∀ p0 p1 , IntKind.u64.min ≤ p0 → p0 ≤ IntKind.u64.max → IntKind.u64.min ≤ p1 → p1 ≤ IntKind.u64.max → (evF Tryz.prog [] 1000 61 (inL A_round_Half [.int .u64 p0, .int .u64 p1])).ok = true) : SumOK Tryz.prog Inv S_round_Half := sumOK_partV inv_stays allOK_nil 1000 61 A_round_Half R_round_Half L_round_Half_is (fun _ => by kernel_rfl) (fun vs hk => by
 obtain ⟨_, _, rfl, ⟨p0, rfl, p0lo, p0hi⟩, _, _, rfl, ⟨p1, rfl, p1lo, p1hi⟩, rfl⟩ := hk
 exact h p0 p1 p0lo p0hi p1lo p1hi )
theorem ok_round_Half : SumOK Tryz.prog Inv S_round_Half := okA_round_Half fun p0 p1 _ _ _ _ => by
 rw [okB_round_Half]
 generalize (p1 == 0) = b
 cases b <;> rfl
noncomputable def F_round_Half (p0 p1 : Int) : Int := (fun l => num (l.getD 0 undef)) (L_round_Half [.int .u64 p0, .int .u64 p1])
theorem F_round_Half_eq (p0 p1 : Int) : F_round_Half p0 p1 =
 bif (p1 == 0) then
 (0)
 else
 (bif (p1 == 0) then
 ((num undef))
 else
 (bif (p1 == 0) then
 ((num undef))
 else
 (bif (decide ((Int.tmod p0 p1) ≥ (IntKind.u64.wrap (p1 - (Int.tmod p0 p1))))) then
 ((IntKind.u64.wrap ((IntKind.u64.wrap (Int.tdiv p0 p1)) + 1)))
 else
 ((IntKind.u64.wrap (Int.tdiv p0 p1)))))) :=
 spellV (L := L_round_Half) (fun l => num (l.getD 0 undef)) (evF Tryz.prog [] 1000 61 (inL A_round_Half [.int .u64 p0, .int .u64 p1])) (L_round_Half_is _) (by kernel_rfl)
def A_knockout_sum : List PS := [.c (.i .u16), .c (.i .u16), .c (.i .u16), .c (.i .u16), .c (.i .u16), .c (.i .u16)]
def R_knockout_sum : RS := .one (.c (.i .u64))
noncomputable def L_knockout_sum : List Value → List Value := Classical.choose (veil fun vs => (evF Tryz.prog [] 1000 92 (inL A_knockout_sum vs)).outL)
theorem L_knockout_sum_is (vs : List Value) : L_knockout_sum vs = (evF Tryz.prog [] 1000 92 (inL A_knockout_sum vs)).outL := Classical.choose_spec (veil _) vs
noncomputable def S_knockout_sum : Sum := ⟨92, L_knockout_sum, A_knockout_sum, R_knockout_sum⟩
theorem ok_knockout_sum : SumOK Tryz.prog Inv S_knockout_sum := sumOK_evV inv_stays allOK_nil 1000 92 A_knockout_sum R_knockout_sum L_knockout_sum_is (fun _ => by kernel_rfl)
noncomputable def F_knockout_sum (p0 p1 p2 p3 p4 p5 : Int) : Int := (fun l => num (l.getD 0 undef)) (L_knockout_sum [.int .u16 p0, .int .u16 p1, .int .u16 p2, .int .u16 p3, .int .u16 p4, .int .u16 p5])
theorem F_knockout_sum_eq (p0 p1 p2 p3 p4 p5 : Int) : F_knockout_sum p0 p1 p2 p3 p4 p5 =
 (IntKind.u64.wrap ((IntKind.u64.wrap ((IntKind.u64.wrap (p0 * p1)) + (IntKind.u64.wrap (p2 * p3)))) + (IntKind.u64.wrap (p4 * p5)))) :=
 spellV (L := L_knockout_sum) (fun l => num (l.getD 0 undef)) (evF Tryz.prog [] 1000 92 (inL A_knockout_sum [.int .u16 p0, .int .u16 p1, .int .u16 p2, .int .u16 p3, .int .u16 p4, .int .u16 p5])) (L_knockout_sum_is _) (by kernel_rfl)
def A_knockout_Color : List PS := [.c (.i .i64), .c (.i .u16), .c (.i .u16), .c (.i .u16), .c (.i .u16), .c (.i .u16), .c (.i .u16), .c (.i .u16)]
def R_knockout_Color : RS := .tup [.c (.i .u16), .c (.b)]
noncomputable def L_knockout_Color : List Value → List Value := Classical.choose (veil fun vs => (evF Tryz.prog [S_wide_Add, S_wide_Mul, S_surd_Half, S_blend_Exact, S_knockout_sum] 1000 72 (inL A_knockout_Color vs)).outL)
theorem L_knockout_Color_is (vs : List Value) : L_knockout_Color vs = (evF Tryz.prog [S_wide_Add, S_wide_Mul, S_surd_Half, S_blend_Exact, S_knockout_sum] 1000 72 (inL A_knockout_Color vs)).outL := Classical.choose_spec (veil _) vs
noncomputable def S_knockout_Color : Sum := ⟨72, L_knockout_Color, A_knockout_Color, R_knockout_Color⟩
theorem ok_knockout_Color : SumOK Tryz.prog Inv S_knockout_Color := sumOK_evV inv_stays (allOK_cons ok_wide_Add (allOK_cons ok_wide_Mul (allOK_cons ok_surd_Half (allOK_cons ok_blend_Exact (allOK_cons ok_knockout_sum allOK_nil))))) 1000 72 A_knockout_Color R_knockout_Color L_knockout_Color_is (fun _ => by kernel_rfl)
noncomputable def F_knockout_Color (p0 p1 p2 p3 p4 p5 p6 p7 : Int) : Int × Bool := (fun l => (num (l.getD 0 undef), tru (l.getD 1 undef))) (L_knockout_Color [.int .i64 p0, .int .u16 p1, .int .u16 p2, .int .u16 p3, .int .u16 p4, .int .u16 p5, .int .u16 p6, .int .u16 p7])
theorem F_knockout_Color_eq (p0 p1 p2 p3 p4 p5 p6 p7 : Int) : F_knockout_Color p0 p1 p2 p3 p4 p5 p6 p7 =
 let x0 := F_blend_Exact p0 p2 p3 p6 p7
 bif (!x0.2.2.2.2.2) then
 ((0, false))
 else
 (bif (p1 == 255) then
 (bif (decide (p3 > p4)) then
 ((0, false))
 else
 (bif (decide (p4 > p1)) then
 ((0, false))
 else
 (bif (decide (p7 > p1)) then
 ((0, false))
 else
 (bif (decide (p5 > p1)) then
 ((0, false))
 else
 (let x1 := F_knockout_sum (IntKind.u16.wrap (p1 - p4)) p5 (IntKind.u16.wrap (p4 - p3)) p6 (IntKind.u16.wrap (p1 - p7)) p2
 let x2 := F_wide_Mul x1 x0.2.2.2.2.1
 let x3 := F_wide_Add x2.1 x2.2 x0.1 x0.2.1
 let x4 := F_surd_Half x3.1 x3.2.1 x0.2.2.1 x0.2.2.2.1 (IntKind.u64.wrap (p1 * x0.2.2.2.2.1))
 ((IntKind.u16.wrap x4.1), x4.2))))))
 else
 (bif (!(p1 == 65535)) then
 ((0, false))
 else
 (bif (decide (p3 > p4)) then
 ((0, false))
 else
 (bif (decide (p4 > p1)) then
 ((0, false))
 else
 (bif (decide (p7 > p1)) then
 ((0, false))
 else
 (bif (decide (p5 > p1)) then
 ((0, false))
 else
 (let x5 := F_knockout_sum (IntKind.u16.wrap (p1 - p4)) p5 (IntKind.u16.wrap (p4 - p3)) p6 (IntKind.u16.wrap (p1 - p7)) p2
 let x6 := F_wide_Mul x5 x0.2.2.2.2.1
 let x7 := F_wide_Add x6.1 x6.2 x0.1 x0.2.1
 let x8 := F_surd_Half x7.1 x7.2.1 x0.2.2.1 x0.2.2.2.1 (IntKind.u64.wrap (p1 * x0.2.2.2.2.1))
 ((IntKind.u16.wrap x8.1), x8.2)))))))) :=
 spellV (L := L_knockout_Color) (fun l => (num (l.getD 0 undef), tru (l.getD 1 undef))) (evF Tryz.prog [S_wide_Add, S_wide_Mul, S_surd_Half, S_blend_Exact, S_knockout_sum] 1000 72 (inL A_knockout_Color [.int .i64 p0, .int .u16 p1, .int .u16 p2, .int .u16 p3, .int .u16 p4, .int .u16 p5, .int .u16 p6, .int .u16 p7])) (L_knockout_Color_is _) (by kernel_rfl)
def A_knockout_Alpha : List PS := [.c (.i .u16), .c (.i .u16), .c (.i .u16), .c (.i .u16), .c (.i .u16)]
def R_knockout_Alpha : RS := .tup [.c (.i .u16), .c (.b)]
noncomputable def L_knockout_Alpha : List Value → List Value := Classical.choose (veil fun vs => (evF Tryz.prog [S_round_Half, S_knockout_sum] 1000 73 (inL A_knockout_Alpha vs)).outL)
theorem L_knockout_Alpha_is (vs : List Value) : L_knockout_Alpha vs = (evF Tryz.prog [S_round_Half, S_knockout_sum] 1000 73 (inL A_knockout_Alpha vs)).outL := Classical.choose_spec (veil _) vs
noncomputable def S_knockout_Alpha : Sum := ⟨73, L_knockout_Alpha, A_knockout_Alpha, R_knockout_Alpha⟩
theorem ok_knockout_Alpha : SumOK Tryz.prog Inv S_knockout_Alpha := sumOK_evV inv_stays (allOK_cons ok_round_Half (allOK_cons ok_knockout_sum allOK_nil)) 1000 73 A_knockout_Alpha R_knockout_Alpha L_knockout_Alpha_is (fun _ => by kernel_rfl)
noncomputable def F_knockout_Alpha (p0 p1 p2 p3 p4 : Int) : Int × Bool := (fun l => (num (l.getD 0 undef), tru (l.getD 1 undef))) (L_knockout_Alpha [.int .u16 p0, .int .u16 p1, .int .u16 p2, .int .u16 p3, .int .u16 p4])
theorem F_knockout_Alpha_eq (p0 p1 p2 p3 p4 : Int) : F_knockout_Alpha p0 p1 p2 p3 p4 =
 bif (p0 == 255) then
 (bif (decide (p1 > p2)) then
 ((0, false))
 else
 (bif (decide (p2 > p0)) then
 ((0, false))
 else
 (bif (decide (p3 > p0)) then
 ((0, false))
 else
 (bif (decide (p4 > p0)) then
 ((0, false))
 else
 (let x0 := F_knockout_sum (IntKind.u16.wrap (p0 - p2)) p3 (IntKind.u16.wrap (p2 - p1)) p4 p0 p1
 let x1 := F_round_Half x0 p0
 ((IntKind.u16.wrap x1), true))))))
 else
 (bif (!(p0 == 65535)) then
 ((0, false))
 else
 (bif (decide (p1 > p2)) then
 ((0, false))
 else
 (bif (decide (p2 > p0)) then
 ((0, false))
 else
 (bif (decide (p3 > p0)) then
 ((0, false))
 else
 (bif (decide (p4 > p0)) then
 ((0, false))
 else
 (let x2 := F_knockout_sum (IntKind.u16.wrap (p0 - p2)) p3 (IntKind.u16.wrap (p2 - p1)) p4 p0 p1
 let x3 := F_round_Half x2 p0
 ((IntKind.u16.wrap x3), true))))))) :=
 spellV (L := L_knockout_Alpha) (fun l => (num (l.getD 0 undef), tru (l.getD 1 undef))) (evF Tryz.prog [S_round_Half, S_knockout_sum] 1000 73 (inL A_knockout_Alpha [.int .u16 p0, .int .u16 p1, .int .u16 p2, .int .u16 p3, .int .u16 p4])) (L_knockout_Alpha_is _) (by kernel_rfl)
def A_knockout_Own : List PS := [.c (.i .u16), .c (.i .u16), .c (.i .u16), .c (.i .u16)]
def R_knockout_Own : RS := .tup [.c (.i .u16), .c (.b)]
noncomputable def L_knockout_Own : List Value → List Value := Classical.choose (veil fun vs => (evF Tryz.prog [S_knockout_Alpha] 1000 74 (inL A_knockout_Own vs)).outL)
theorem L_knockout_Own_is (vs : List Value) : L_knockout_Own vs = (evF Tryz.prog [S_knockout_Alpha] 1000 74 (inL A_knockout_Own vs)).outL := Classical.choose_spec (veil _) vs
noncomputable def S_knockout_Own : Sum := ⟨74, L_knockout_Own, A_knockout_Own, R_knockout_Own⟩
theorem ok_knockout_Own : SumOK Tryz.prog Inv S_knockout_Own := sumOK_evV inv_stays (allOK_cons ok_knockout_Alpha allOK_nil) 1000 74 A_knockout_Own R_knockout_Own L_knockout_Own_is (fun _ => by kernel_rfl)
noncomputable def F_knockout_Own (p0 p1 p2 p3 : Int) : Int × Bool := (fun l => (num (l.getD 0 undef), tru (l.getD 1 undef))) (L_knockout_Own [.int .u16 p0, .int .u16 p1, .int .u16 p2, .int .u16 p3])
theorem F_knockout_Own_eq (p0 p1 p2 p3 : Int) : F_knockout_Own p0 p1 p2 p3 =
 let x0 := F_knockout_Alpha p0 p1 p2 p3 0
 (x0.1, x0.2) :=
 spellV (L := L_knockout_Own) (fun l => (num (l.getD 0 undef), tru (l.getD 1 undef))) (evF Tryz.prog [S_knockout_Alpha] 1000 74 (inL A_knockout_Own [.int .u16 p0, .int .u16 p1, .int .u16 p2, .int .u16 p3])) (L_knockout_Own_is _) (by kernel_rfl)
def A_r6_KnockColor : List PS := [.c (.i .i64), .c (.i .u16), .c (.i .u16), .c (.i .u16), .c (.i .u16), .c (.i .u16), .c (.i .u16), .c (.i .u16)]
def R_r6_KnockColor : RS := .tup [.c (.i .u16), .c (.b)]
noncomputable def L_r6_KnockColor : List Value → List Value := Classical.choose (veil fun vs => (evF Tryz.prog [S_r1_Add, S_r1_Mul, S_r1_HalfExact, S_r6_IsMode, S_r6_Blend, S_r1_Full] 1000 67 (inL A_r6_KnockColor vs)).outL)
theorem L_r6_KnockColor_is (vs : List Value) : L_r6_KnockColor vs = (evF Tryz.prog [S_r1_Add, S_r1_Mul, S_r1_HalfExact, S_r6_IsMode, S_r6_Blend, S_r1_Full] 1000 67 (inL A_r6_KnockColor vs)).outL := Classical.choose_spec (veil _) vs
noncomputable def S_r6_KnockColor : Sum := ⟨67, L_r6_KnockColor, A_r6_KnockColor, R_r6_KnockColor⟩
theorem ok_r6_KnockColor : SumOK Tryz.prog Inv S_r6_KnockColor := sumOK_evV inv_stays (allOK_cons ok_r1_Add (allOK_cons ok_r1_Mul (allOK_cons ok_r1_HalfExact (allOK_cons ok_r6_IsMode (allOK_cons ok_r6_Blend (allOK_cons ok_r1_Full allOK_nil)))))) 1000 67 A_r6_KnockColor R_r6_KnockColor L_r6_KnockColor_is (fun _ => by kernel_rfl)
noncomputable def F_r6_KnockColor (p0 p1 p2 p3 p4 p5 p6 p7 : Int) : Int × Bool := (fun l => (num (l.getD 0 undef), tru (l.getD 1 undef))) (L_r6_KnockColor [.int .i64 p0, .int .u16 p1, .int .u16 p2, .int .u16 p3, .int .u16 p4, .int .u16 p5, .int .u16 p6, .int .u16 p7])
theorem F_r6_KnockColor_eq (p0 p1 p2 p3 p4 p5 p6 p7 : Int) : F_r6_KnockColor p0 p1 p2 p3 p4 p5 p6 p7 =
 let x0 := F_r6_IsMode p0
 bif (!x0) then
 ((0, false))
 else
 (let x1 := F_r1_Full p1
 bif (!x1) then
 ((0, false))
 else
 (bif (decide (p2 > p3)) then
 ((0, false))
 else
 (bif (decide (p3 > p4)) then
 ((0, false))
 else
 (bif (decide (p4 > p1)) then
 ((0, false))
 else
 (bif (decide (p6 > p7)) then
 ((0, false))
 else
 (bif (decide (p7 > p1)) then
 ((0, false))
 else
 (bif (decide (p5 > p1)) then
 ((0, false))
 else
 (let x2 := F_r6_Blend p0 p2 p3 p6 p7
 let x3 := F_r1_Mul (IntKind.u64.wrap ((IntKind.u64.wrap ((IntKind.u64.wrap ((IntKind.u64.wrap (p1 - p4)) * p5)) + (IntKind.u64.wrap ((IntKind.u64.wrap (p4 - p3)) * p6)))) + (IntKind.u64.wrap ((IntKind.u64.wrap (p1 - p7)) * p2)))) x2.2.2.2.2.1
 let x4 := F_r1_Add x2.1 x2.2.1 x3.1 x3.2
 let x5 := F_r1_HalfExact x4.1 x4.2.1 x2.2.2.1 x2.2.2.2.1 (IntKind.u64.wrap (p1 * x2.2.2.2.2.1))
 ((IntKind.u16.wrap x5.1), true))))))))) :=
 spellV (L := L_r6_KnockColor) (fun l => (num (l.getD 0 undef), tru (l.getD 1 undef))) (evF Tryz.prog [S_r1_Add, S_r1_Mul, S_r1_HalfExact, S_r6_IsMode, S_r6_Blend, S_r1_Full] 1000 67 (inL A_r6_KnockColor [.int .i64 p0, .int .u16 p1, .int .u16 p2, .int .u16 p3, .int .u16 p4, .int .u16 p5, .int .u16 p6, .int .u16 p7])) (L_r6_KnockColor_is _) (by kernel_rfl)
def A_r6_KnockAlpha : List PS := [.c (.i .u16), .c (.i .u16), .c (.i .u16), .c (.i .u16), .c (.i .u16)]
def R_r6_KnockAlpha : RS := .tup [.c (.i .u16), .c (.b)]
noncomputable def L_r6_KnockAlpha : List Value → List Value := Classical.choose (veil fun vs => (evF Tryz.prog [S_r1_Half, S_r1_Full] 1000 69 (inL A_r6_KnockAlpha vs)).outL)
theorem L_r6_KnockAlpha_is (vs : List Value) : L_r6_KnockAlpha vs = (evF Tryz.prog [S_r1_Half, S_r1_Full] 1000 69 (inL A_r6_KnockAlpha vs)).outL := Classical.choose_spec (veil _) vs
noncomputable def S_r6_KnockAlpha : Sum := ⟨69, L_r6_KnockAlpha, A_r6_KnockAlpha, R_r6_KnockAlpha⟩
theorem ok_r6_KnockAlpha : SumOK Tryz.prog Inv S_r6_KnockAlpha := sumOK_evV inv_stays (allOK_cons ok_r1_Half (allOK_cons ok_r1_Full allOK_nil)) 1000 69 A_r6_KnockAlpha R_r6_KnockAlpha L_r6_KnockAlpha_is (fun _ => by kernel_rfl)
noncomputable def F_r6_KnockAlpha (p0 p1 p2 p3 p4 : Int) : Int × Bool := (fun l => (num (l.getD 0 undef), tru (l.getD 1 undef))) (L_r6_KnockAlpha [.int .u16 p0, .int .u16 p1, .int .u16 p2, .int .u16 p3, .int .u16 p4])
theorem F_r6_KnockAlpha_eq (p0 p1 p2 p3 p4 : Int) : F_r6_KnockAlpha p0 p1 p2 p3 p4 =
 let x0 := F_r1_Full p0
 bif (!x0) then
 ((0, false))
 else
 (bif (decide (p1 > p2)) then
 ((0, false))
 else
 (bif (decide (p2 > p0)) then
 ((0, false))
 else
 (bif (decide (p3 > p0)) then
 ((0, false))
 else
 (bif (decide (p4 > p0)) then
 ((0, false))
 else
 (let x1 := F_r1_Half (IntKind.u64.wrap ((IntKind.u64.wrap ((IntKind.u64.wrap ((IntKind.u64.wrap (p0 - p2)) * p3)) + (IntKind.u64.wrap ((IntKind.u64.wrap (p2 - p1)) * p4)))) + (IntKind.u64.wrap (p0 * p1)))) p0
 ((IntKind.u16.wrap x1), true)))))) :=
 spellV (L := L_r6_KnockAlpha) (fun l => (num (l.getD 0 undef), tru (l.getD 1 undef))) (evF Tryz.prog [S_r1_Half, S_r1_Full] 1000 69 (inL A_r6_KnockAlpha [.int .u16 p0, .int .u16 p1, .int .u16 p2, .int .u16 p3, .int .u16 p4])) (L_r6_KnockAlpha_is _) (by kernel_rfl)
def A_r6_KnockOwn : List PS := [.c (.i .u16), .c (.i .u16), .c (.i .u16), .c (.i .u16)]
def R_r6_KnockOwn : RS := .tup [.c (.i .u16), .c (.b)]
noncomputable def L_r6_KnockOwn : List Value → List Value := Classical.choose (veil fun vs => (evF Tryz.prog [S_r6_KnockAlpha] 1000 70 (inL A_r6_KnockOwn vs)).outL)
theorem L_r6_KnockOwn_is (vs : List Value) : L_r6_KnockOwn vs = (evF Tryz.prog [S_r6_KnockAlpha] 1000 70 (inL A_r6_KnockOwn vs)).outL := Classical.choose_spec (veil _) vs
noncomputable def S_r6_KnockOwn : Sum := ⟨70, L_r6_KnockOwn, A_r6_KnockOwn, R_r6_KnockOwn⟩
theorem ok_r6_KnockOwn : SumOK Tryz.prog Inv S_r6_KnockOwn := sumOK_evV inv_stays (allOK_cons ok_r6_KnockAlpha allOK_nil) 1000 70 A_r6_KnockOwn R_r6_KnockOwn L_r6_KnockOwn_is (fun _ => by kernel_rfl)
noncomputable def F_r6_KnockOwn (p0 p1 p2 p3 : Int) : Int × Bool := (fun l => (num (l.getD 0 undef), tru (l.getD 1 undef))) (L_r6_KnockOwn [.int .u16 p0, .int .u16 p1, .int .u16 p2, .int .u16 p3])
theorem F_r6_KnockOwn_eq (p0 p1 p2 p3 : Int) : F_r6_KnockOwn p0 p1 p2 p3 =
 let x0 := F_r6_KnockAlpha p0 p1 p2 p3 0
 (x0.1, x0.2) :=
 spellV (L := L_r6_KnockOwn) (fun l => (num (l.getD 0 undef), tru (l.getD 1 undef))) (evF Tryz.prog [S_r6_KnockAlpha] 1000 70 (inL A_r6_KnockOwn [.int .u16 p0, .int .u16 p1, .int .u16 p2, .int .u16 p3])) (L_r6_KnockOwn_is _) (by kernel_rfl)
end Go.Proofs.YtdioaiepkhepaaaGreatDoor
