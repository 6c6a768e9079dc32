/- FrameRejectsWithoutEffect: the law. Printed by a program (gen/Gen2.lean) but for the loops' proofs; what each function does is told by the evaluator, and the kernel checks it. No condition. -/
import Derived.Test.YtdioaiepkhepaaaGreatDoorMzs
import Derived.KernelRfl
import Derived.Shelf.Spec.TrailingZeros
import Derived.Laws.Bits64b
namespace Go.Proofs.YtdioaiepkhepaaaGreatDoor
set_option maxRecDepth 100000
open Go.RowKit
def A_law22_FR : List PS := [.c (.l RAW), .c (.i .i64), .agg RAW]
def R_law22_FR : RS := .one (.c (.b))
def head_law22_FR_6 : Shp := ⟨[.p (.c (.h (.l RAW))), .p (.c (.h (.i .i64))), .any, .any, .any, .p (.c (.p 0 0)), .any, .p (.c (.p 1 0)), .any, .p (.c (.p 3 0)), .any, .p (.c (.h (.i .i64))), .any, .any, .any, .any, .any, .any, .any, .any, .any, .any, .any, .any, .any, .any, .any, .any, .any, .any, .any, .any, .any, .any, .any, .any, .any, .any, .any, .any, .any, .any, .any, .any, .any, .any, .any, .any, .any, .any, .any, .any, .any, .any, .any, .any, .any, .any, .any, .any, .any, .any, .any, .any, .any, .any, .any, .any, .any, .any, .any, .any, .any, .any, .any, .any, .any, .any, .any, .any, .any, .any, .any, .any, .any, .any, .any, .any, .any, .any, .any, .any, .any, .any, .any, .any, .any, .any, .any, .any, .any, .any, .any, .any, .any, .any, .any, .any, .any, .any, .any, .any, .any, .any, .any, .any, .any, .any, .any, .any, .any, .any, .any, .any], [(0, ⟨[.h (.i .i64), .h (.i .i64), .h (.i .i64), .h (.i .i64), .h (.i .i64), .h (.i .i64), .h (.i .i64), .h (.i .i64), .h (.i .i64), .h (.i .i64), .h (.i .i64), .h (.i .i64), .h (.i .i64), .h (.i .i64), .h (.i .i64), .h (.i .i64), .h (.i .i64), .h (.i .i64), .h (.i .u16), .h (.i .u16), .h (.i .u16), .h (.i .u16), .h (.i .u16)], 41, true, none⟩), (1, ⟨[.h (.i .u16), .ar 2 LV 61], 64, true, none⟩), (2, ⟨[], 61, true, some LV⟩), (3, ⟨[.h (.i .u16), .ar 4 LV 67], 70, true, none⟩), (4, ⟨[], 67, true, some LV⟩)]⟩
def outs_law22_FR_6 : List (Xt × Shp × Nat) := [(.ret, ⟨[.any, .any, .any, .any, .any, .any, .p (.c (.h (.b))), .any, .any, .any, .any, .any, .any, .any, .any, .any, .any, .any, .any, .any, .any, .any, .any, .any, .any, .any, .any, .any, .any, .any, .any, .any, .any, .any, .any, .any, .any, .any, .any, .any, .any, .any, .any, .any, .any, .any, .any, .any, .any, .any, .any, .any, .any, .any, .any, .any, .any, .any, .any, .any, .any, .any, .any, .any, .any, .any, .any, .any, .any, .any, .any, .any, .any, .any, .any, .any, .any, .any, .any, .any, .any, .any, .any, .any, .any, .any, .any, .any, .any, .any, .any, .any, .any, .any, .any, .any, .any, .any, .any, .any, .any, .any, .any, .any, .any, .any, .any, .any, .any, .any, .any, .any, .any, .any, .any, .any, .any, .any, .any, .any, .any, .any, .any, .any], []⟩, 0), (.exit 0, ⟨[.any, .p (.c (.h (.i .i64))), .any, .any, .any, .p (.c (.p 0 0)), .any, .p (.c (.p 1 0)), .any, .p (.c (.p 3 0)), .any, .any, .any, .any, .any, .any, .any, .any, .any, .any, .any, .any, .any, .any, .any, .any, .any, .any, .any, .any, .any, .any, .any, .any, .any, .any, .any, .any, .any, .any, .any, .any, .any, .any, .any, .any, .any, .any, .any, .any, .any, .any, .any, .any, .any, .any, .any, .any, .any, .any, .any, .any, .any, .any, .any, .any, .any, .any, .any, .any, .any, .any, .any, .any, .any, .any, .any, .any, .any, .any, .any, .any, .any, .any, .any, .any, .any, .any, .any, .any, .any, .any, .any, .any, .any, .any, .any, .any, .any, .any, .any, .any, .any, .any, .any, .any, .any, .any, .any, .any, .any, .any, .any, .any, .any, .any, .any, .any, .any, .any, .any, .any, .any, .any], [(0, ⟨[.h (.i .i64), .h (.i .i64), .h (.i .i64), .h (.i .i64), .h (.i .i64), .h (.i .i64), .h (.i .i64), .h (.i .i64), .h (.i .i64), .h (.i .i64), .h (.i .i64), .h (.i .i64), .h (.i .i64), .h (.i .i64), .h (.i .i64), .h (.i .i64), .h (.i .i64), .h (.i .i64), .h (.i .u16), .h (.i .u16), .h (.i .u16), .h (.i .u16), .h (.i .u16)], 41, true, none⟩), (1, ⟨[.h (.i .u16), .ar 2 LV 61], 64, true, none⟩), (2, ⟨[], 61, true, some LV⟩), (3, ⟨[.h (.i .u16), .ar 4 LV 67], 70, true, none⟩), (4, ⟨[], 67, true, some LV⟩)]⟩, 5)]
noncomputable def OUT_law22_FR_6 (p0 : Value) (p1 p2 p3 p4 p5 p6 p7 p8 p9 p10 p11 p12 p13 p14 p15 p16 p17 p18 p19 p20 p21 p22 p23 p24 p25 p26 : Int) (p27 : Value) (p28 : Int) (p29 : Value) : List Value :=
 bif (decide (p2 < (LN p0))) then
 (bif (decide (p2 < 8)) then
 (bif (INB p0 p2) then
 (bif (pre_law22_step [.int .i64 (num (CV (IX p0 p2) 0)), .int .i64 (num (CV (IX p0 p2) 1)), .int .i64 (num (CV (IX p0 p2) 2)), .int .i64 (num (CV (IX p0 p2) 3)), .int .i64 (num (CV (IX p0 p2) 4)), .int .i64 (num (CV (IX p0 p2) 5)), .int .i64 (num (CV (IX p0 p2) 6)), .int .i64 (num (CV (IX p0 p2) 7)), .int .i64 (num (CV (IX p0 p2) 8)), .int .i64 (num (CV (IX p0 p2) 9)), .int .i64 (num (CV (IX p0 p2) 10)), .int .i64 (num (CV (IX p0 p2) 11)), .int .i64 (num (CV (IX p0 p2) 12)), .int .i64 (num (CV (IX p0 p2) 13)), .int .i64 (num (CV (IX p0 p2) 14)), .int .i64 (num (CV (IX p0 p2) 15)), .int .i64 (num (CV (IX p0 p2) 16)), .int .i64 (num (CV (IX p0 p2) 17)), .int .u16 (num (CV (IX p0 p2) 18)), .int .u16 (num (CV (IX p0 p2) 19)), .int .u16 (num (CV (IX p0 p2) 20)), .int .u16 (num (CV (IX p0 p2) 21)), .int .u16 (num (CV (IX p0 p2) 22)), .int .u16 255, .bool false, .int .u16 p26, p27, .int .u16 p28, p29]) then
 (let x0 := LF_law22_step [.int .i64 (num (CV (IX p0 p2) 0)), .int .i64 (num (CV (IX p0 p2) 1)), .int .i64 (num (CV (IX p0 p2) 2)), .int .i64 (num (CV (IX p0 p2) 3)), .int .i64 (num (CV (IX p0 p2) 4)), .int .i64 (num (CV (IX p0 p2) 5)), .int .i64 (num (CV (IX p0 p2) 6)), .int .i64 (num (CV (IX p0 p2) 7)), .int .i64 (num (CV (IX p0 p2) 8)), .int .i64 (num (CV (IX p0 p2) 9)), .int .i64 (num (CV (IX p0 p2) 10)), .int .i64 (num (CV (IX p0 p2) 11)), .int .i64 (num (CV (IX p0 p2) 12)), .int .i64 (num (CV (IX p0 p2) 13)), .int .i64 (num (CV (IX p0 p2) 14)), .int .i64 (num (CV (IX p0 p2) 15)), .int .i64 (num (CV (IX p0 p2) 16)), .int .i64 (num (CV (IX p0 p2) 17)), .int .u16 (num (CV (IX p0 p2) 18)), .int .u16 (num (CV (IX p0 p2) 19)), .int .u16 (num (CV (IX p0 p2) 20)), .int .u16 (num (CV (IX p0 p2) 21)), .int .u16 (num (CV (IX p0 p2) 22)), .int .u16 255, .bool false, .int .u16 p26, p27, .int .u16 p28, p29]
 bif (!(tru (x0.getD 1 undef))) then
 ([.int .i64 0, .bool false])
 else
 ([.int .i64 (-1), p0, .int .i64 p1, .int .i64 (IntKind.i64.wrap (p2 + 1)), .int .i64 p3, .int .i64 p4, .int .i64 p5, .int .i64 p6, .int .i64 p7, .int .i64 p8, .int .i64 p9, .int .i64 p10, .int .i64 p11, .int .i64 p12, .int .i64 p13, .int .i64 p14, .int .i64 p15, .int .i64 p16, .int .i64 p17, .int .i64 p18, .int .i64 p19, .int .i64 p20, .int .u16 p21, .int .u16 p22, .int .u16 p23, .int .u16 p24, .int .u16 p25, .int .u16 (num (x0.getD 2 undef)), (x0.getD 3 undef), .int .u16 (num (x0.getD 4 undef)), (x0.getD 5 undef)]))
 else
 ([]))
 else
 ([]))
 else
 ([.int .i64 1, .int .i64 p1, .int .i64 p3, .int .i64 p4, .int .i64 p5, .int .i64 p6, .int .i64 p7, .int .i64 p8, .int .i64 p9, .int .i64 p10, .int .i64 p11, .int .i64 p12, .int .i64 p13, .int .i64 p14, .int .i64 p15, .int .i64 p16, .int .i64 p17, .int .i64 p18, .int .i64 p19, .int .i64 p20, .int .u16 p21, .int .u16 p22, .int .u16 p23, .int .u16 p24, .int .u16 p25, .int .u16 p26, p27, .int .u16 p28, p29]))
 else
 ([.int .i64 1, .int .i64 p1, .int .i64 p3, .int .i64 p4, .int .i64 p5, .int .i64 p6, .int .i64 p7, .int .i64 p8, .int .i64 p9, .int .i64 p10, .int .i64 p11, .int .i64 p12, .int .i64 p13, .int .i64 p14, .int .i64 p15, .int .i64 p16, .int .i64 p17, .int .i64 p18, .int .i64 p19, .int .i64 p20, .int .u16 p21, .int .u16 p22, .int .u16 p23, .int .u16 p24, .int .u16 p25, .int .u16 p26, p27, .int .u16 p28, p29])
noncomputable def OL_law22_FR_6 (xs : List Value) : List Value := OUT_law22_FR_6 (xs.getD 0 undef) (num (xs.getD 1 undef)) (num (xs.getD 2 undef)) (num (xs.getD 3 undef)) (num (xs.getD 4 undef)) (num (xs.getD 5 undef)) (num (xs.getD 6 undef)) (num (xs.getD 7 undef)) (num (xs.getD 8 undef)) (num (xs.getD 9 undef)) (num (xs.getD 10 undef)) (num (xs.getD 11 undef)) (num (xs.getD 12 undef)) (num (xs.getD 13 undef)) (num (xs.getD 14 undef)) (num (xs.getD 15 undef)) (num (xs.getD 16 undef)) (num (xs.getD 17 undef)) (num (xs.getD 18 undef)) (num (xs.getD 19 undef)) (num (xs.getD 20 undef)) (num (xs.getD 21 undef)) (num (xs.getD 22 undef)) (num (xs.getD 23 undef)) (num (xs.getD 24 undef)) (num (xs.getD 25 undef)) (num (xs.getD 26 undef)) (xs.getD 27 undef) (num (xs.getD 28 undef)) (xs.getD 29 undef)
noncomputable def LF_law22_FR_6 : List Value → List Value := LFof OL_law22_FR_6
noncomputable def pre_law22_FR_6 : List Value → Bool := fun vs => decide (0 ≤ num (vs.getD 2 undef)) && oneB (.int .u16 255) (vs.getD 26 undef) (vs.getD 27 undef) (vs.getD 28 undef) (vs.getD 29 undef)
noncomputable def LC_law22_FR_6 : LoopC := ⟨4, 6, LF_law22_FR_6, pre_law22_FR_6, 5, head_law22_FR_6, outs_law22_FR_6⟩
theorem LF_law22_FR_6_go (p0 : Value) (p1 p2 p3 p4 p5 p6 p7 p8 p9 p10 p11 p12 p13 p14 p15 p16 p17 p18 p19 p20 p21 p22 p23 p24 p25 p26 : Int) (p27 : Value) (p28 : Int) (p29 : Value) : LF_law22_FR_6 [p0, .int .i64 p1, .int .i64 p2, .int .i64 p3, .int .i64 p4, .int .i64 p5, .int .i64 p6, .int .i64 p7, .int .i64 p8, .int .i64 p9, .int .i64 p10, .int .i64 p11, .int .i64 p12, .int .i64 p13, .int .i64 p14, .int .i64 p15, .int .i64 p16, .int .i64 p17, .int .i64 p18, .int .i64 p19, .int .i64 p20, .int .u16 p21, .int .u16 p22, .int .u16 p23, .int .u16 p24, .int .u16 p25, .int .u16 p26, p27, .int .u16 p28, p29] = goOn LF_law22_FR_6 (OUT_law22_FR_6 p0 p1 p2 p3 p4 p5 p6 p7 p8 p9 p10 p11 p12 p13 p14 p15 p16 p17 p18 p19 p20 p21 p22 p23 p24 p25 p26 p27 p28 p29) := LFof_eq _ _
theorem okBL_law22_FR_6 (p0 : Value) (p1 p2 p3 p4 p5 p6 p7 p8 p9 p10 p11 p12 p13 p14 p15 p16 p17 p18 p19 p20 p21 p22 p23 p24 p25 p26 : Int) (p27 : Value) (p28 : Int) (p29 : Value) : (evL ⟨[C_law22_same], [LC_fM_Push, LC_fM_Draw, LC_law22_step]⟩ Tryz.prog [S_gen_Mod, S_r1_Full, S_gen_Pixel, S_gen_Op, S_law22_awake] 1000 LC_law22_FR_6 [p0, .int .i64 p1, .int .i64 p2, .int .i64 p3, .int .i64 p4, .int .i64 p5, .int .i64 p6, .int .i64 p7, .int .i64 p8, .int .i64 p9, .int .i64 p10, .int .i64 p11, .int .i64 p12, .int .i64 p13, .int .i64 p14, .int .i64 p15, .int .i64 p16, .int .i64 p17, .int .i64 p18, .int .i64 p19, .int .i64 p20, .int .u16 p21, .int .u16 p22, .int .u16 p23, .int .u16 p24, .int .u16 p25, .int .u16 p26, p27, .int .u16 p28, p29]).ok =
 bif (decide (p2 < (LN p0))) then
 (bif (decide (p2 < 8)) then
 (bif (INB p0 p2) then
 (bif (pre_law22_step [.int .i64 (num (CV (IX p0 p2) 0)), .int .i64 (num (CV (IX p0 p2) 1)), .int .i64 (num (CV (IX p0 p2) 2)), .int .i64 (num (CV (IX p0 p2) 3)), .int .i64 (num (CV (IX p0 p2) 4)), .int .i64 (num (CV (IX p0 p2) 5)), .int .i64 (num (CV (IX p0 p2) 6)), .int .i64 (num (CV (IX p0 p2) 7)), .int .i64 (num (CV (IX p0 p2) 8)), .int .i64 (num (CV (IX p0 p2) 9)), .int .i64 (num (CV (IX p0 p2) 10)), .int .i64 (num (CV (IX p0 p2) 11)), .int .i64 (num (CV (IX p0 p2) 12)), .int .i64 (num (CV (IX p0 p2) 13)), .int .i64 (num (CV (IX p0 p2) 14)), .int .i64 (num (CV (IX p0 p2) 15)), .int .i64 (num (CV (IX p0 p2) 16)), .int .i64 (num (CV (IX p0 p2) 17)), .int .u16 (num (CV (IX p0 p2) 18)), .int .u16 (num (CV (IX p0 p2) 19)), .int .u16 (num (CV (IX p0 p2) 20)), .int .u16 (num (CV (IX p0 p2) 21)), .int .u16 (num (CV (IX p0 p2) 22)), .int .u16 255, .bool false, .int .u16 p26, p27, .int .u16 p28, p29]) then
 (true)
 else
 (false))
 else
 (false))
 else
 (true))
 else
 (true) := (okR_eq _).trans (by kernel_rfl)
theorem step_law22_FR_6 (p0 : Value) (p1 p2 p3 p4 p5 p6 p7 p8 p9 p10 p11 p12 p13 p14 p15 p16 p17 p18 p19 p20 p21 p22 p23 p24 p25 p26 : Int) (p27 : Value) (p28 : Int) (p29 : Value) : (evL ⟨[C_law22_same], [LC_fM_Push, LC_fM_Draw, LC_law22_step]⟩ Tryz.prog [S_gen_Mod, S_r1_Full, S_gen_Pixel, S_gen_Op, S_law22_awake] 1000 LC_law22_FR_6 [p0, .int .i64 p1, .int .i64 p2, .int .i64 p3, .int .i64 p4, .int .i64 p5, .int .i64 p6, .int .i64 p7, .int .i64 p8, .int .i64 p9, .int .i64 p10, .int .i64 p11, .int .i64 p12, .int .i64 p13, .int .i64 p14, .int .i64 p15, .int .i64 p16, .int .i64 p17, .int .i64 p18, .int .i64 p19, .int .i64 p20, .int .u16 p21, .int .u16 p22, .int .u16 p23, .int .u16 p24, .int .u16 p25, .int .u16 p26, p27, .int .u16 p28, p29]).outL = OUT_law22_FR_6 p0 p1 p2 p3 p4 p5 p6 p7 p8 p9 p10 p11 p12 p13 p14 p15 p16 p17 p18 p19 p20 p21 p22 p23 p24 p25 p26 p27 p28 p29 := (fold_eq (fun l => l) _).trans (by kernel_rfl)
theorem one_law22_FR_6 : (loopsBy Tryz.prog 4 6).length = 1 := by kernel_rfl
theorem env_law22_FR_6 : EnvOK Tryz.prog InvN ⟨[C_law22_same], [LC_fM_Push, LC_fM_Draw, LC_law22_step]⟩ ∧ AllOK Tryz.prog InvN [S_gen_Mod, S_r1_Full, S_gen_Pixel, S_gen_Op, S_law22_awake] := ⟨⟨(allC_cons ok_law22_same allC_nil), (allL_cons ok_fM_Push (allL_cons ok_fM_Draw (allL_cons ok_law22_step allL_nil)))⟩, (allOK_cons ok_gen_Mod.any (allOK_cons ok_r1_Full.any (allOK_cons ok_gen_Pixel (allOK_cons ok_gen_Op (allOK_cons ok_law22_awake allOK_nil)))))⟩
theorem lp_law22_FR_6 (meas : List Value → Nat) (h : ∀ p0 p1 p2 p3 p4 p5 p6 p7 p8 p9 p10 p11 p12 p13 p14 p15 p16 p17 p18 p19 p20 p21 p22 p23 p24 p25 p26 p27 p28 p29, inKind (.l RAW) p0 → IntKind.i64.min ≤ p1 → p1 ≤ IntKind.i64.max → IntKind.i64.min ≤ p2 → p2 ≤ IntKind.i64.max → IntKind.i64.min ≤ p3 → p3 ≤ IntKind.i64.max → IntKind.i64.min ≤ p4 → p4 ≤ IntKind.i64.max → IntKind.i64.min ≤ p5 → p5 ≤ IntKind.i64.max → IntKind.i64.min ≤ p6 → p6 ≤ IntKind.i64.max → IntKind.i64.min ≤ p7 → p7 ≤ IntKind.i64.max → IntKind.i64.min ≤ p8 → p8 ≤ IntKind.i64.max → IntKind.i64.min ≤ p9 → p9 ≤ IntKind.i64.max → IntKind.i64.min ≤ p10 → p10 ≤ IntKind.i64.max → IntKind.i64.min ≤ p11 → p11 ≤ IntKind.i64.max → IntKind.i64.min ≤ p12 → p12 ≤ IntKind.i64.max → IntKind.i64.min ≤ p13 → p13 ≤ IntKind.i64.max → IntKind.i64.min ≤ p14 → p14 ≤ IntKind.i64.max → IntKind.i64.min ≤ p15 → p15 ≤ IntKind.i64.max → IntKind.i64.min ≤ p16 → p16 ≤ IntKind.i64.max → IntKind.i64.min ≤ p17 → p17 ≤ IntKind.i64.max → IntKind.i64.min ≤ p18 → p18 ≤ IntKind.i64.max → IntKind.i64.min ≤ p19 → p19 ≤ IntKind.i64.max → IntKind.i64.min ≤ p20 → p20 ≤ IntKind.i64.max → IntKind.u16.min ≤ p21 → p21 ≤ IntKind.u16.max → IntKind.u16.min ≤ p22 → p22 ≤ IntKind.u16.max → IntKind.u16.min ≤ p23 → p23 ≤ IntKind.u16.max → IntKind.u16.min ≤ p24 → p24 ≤ IntKind.u16.max → IntKind.u16.min ≤ p25 → p25 ≤ IntKind.u16.max → IntKind.u16.min ≤ p26 → p26 ≤ IntKind.u16.max → inKind (.l LV) p27 → IntKind.u16.min ≤ p28 → p28 ≤ IntKind.u16.max → inKind (.l LV) p29 → pre_law22_FR_6 [p0, .int .i64 p1, .int .i64 p2, .int .i64 p3, .int .i64 p4, .int .i64 p5, .int .i64 p6, .int .i64 p7, .int .i64 p8, .int .i64 p9, .int .i64 p10, .int .i64 p11, .int .i64 p12, .int .i64 p13, .int .i64 p14, .int .i64 p15, .int .i64 p16, .int .i64 p17, .int .i64 p18, .int .i64 p19, .int .i64 p20, .int .u16 p21, .int .u16 p22, .int .u16 p23, .int .u16 p24, .int .u16 p25, .int .u16 p26, p27, .int .u16 p28, p29] = true → (evL ⟨[C_law22_same], [LC_fM_Push, LC_fM_Draw, LC_law22_step]⟩ Tryz.prog [S_gen_Mod, S_r1_Full, S_gen_Pixel, S_gen_Op, S_law22_awake] 1000 LC_law22_FR_6 [p0, .int .i64 p1, .int .i64 p2, .int .i64 p3, .int .i64 p4, .int .i64 p5, .int .i64 p6, .int .i64 p7, .int .i64 p8, .int .i64 p9, .int .i64 p10, .int .i64 p11, .int .i64 p12, .int .i64 p13, .int .i64 p14, .int .i64 p15, .int .i64 p16, .int .i64 p17, .int .i64 p18, .int .i64 p19, .int .i64 p20, .int .u16 p21, .int .u16 p22, .int .u16 p23, .int .u16 p24, .int .u16 p25, .int .u16 p26, p27, .int .u16 p28, p29]).ok = true ∧ okO pre_law22_FR_6 meas (meas [p0, .int .i64 p1, .int .i64 p2, .int .i64 p3, .int .i64 p4, .int .i64 p5, .int .i64 p6, .int .i64 p7, .int .i64 p8, .int .i64 p9, .int .i64 p10, .int .i64 p11, .int .i64 p12, .int .i64 p13, .int .i64 p14, .int .i64 p15, .int .i64 p16, .int .i64 p17, .int .i64 p18, .int .i64 p19, .int .i64 p20, .int .u16 p21, .int .u16 p22, .int .u16 p23, .int .u16 p24, .int .u16 p25, .int .u16 p26, p27, .int .u16 p28, p29]) (OUT_law22_FR_6 p0 p1 p2 p3 p4 p5 p6 p7 p8 p9 p10 p11 p12 p13 p14 p15 p16 p17 p18 p19 p20 p21 p22 p23 p24 p25 p26 p27 p28 p29)) : LoopTrue Tryz.prog InvN LC_law22_FR_6 := loop_lf env_law22_FR_6 1000 LC_law22_FR_6 one_law22_FR_6 meas OL_law22_FR_6 rfl (by
 refine kLc fun p0 p0k => ?_
 refine kLi fun p1 p1lo p1hi => ?_
 refine kLi fun p2 p2lo p2hi => ?_
 refine kLi fun p3 p3lo p3hi => ?_
 refine kLi fun p4 p4lo p4hi => ?_
 refine kLi fun p5 p5lo p5hi => ?_
 refine kLi fun p6 p6lo p6hi => ?_
 refine kLi fun p7 p7lo p7hi => ?_
 refine kLi fun p8 p8lo p8hi => ?_
 refine kLi fun p9 p9lo p9hi => ?_
 refine kLi fun p10 p10lo p10hi => ?_
 refine kLi fun p11 p11lo p11hi => ?_
 refine kLi fun p12 p12lo p12hi => ?_
 refine kLi fun p13 p13lo p13hi => ?_
 refine kLi fun p14 p14lo p14hi => ?_
 refine kLi fun p15 p15lo p15hi => ?_
 refine kLi fun p16 p16lo p16hi => ?_
 refine kLi fun p17 p17lo p17hi => ?_
 refine kLi fun p18 p18lo p18hi => ?_
 refine kLi fun p19 p19lo p19hi => ?_
 refine kLi fun p20 p20lo p20hi => ?_
 refine kLi fun p21 p21lo p21hi => ?_
 refine kLi fun p22 p22lo p22hi => ?_
 refine kLi fun p23 p23lo p23hi => ?_
 refine kLi fun p24 p24lo p24hi => ?_
 refine kLi fun p25 p25lo p25hi => ?_
 refine kLi fun p26 p26lo p26hi => ?_
 refine kLc fun p27 p27k => ?_
 refine kLi fun p28 p28lo p28hi => ?_
 refine kLc fun p29 p29k => ?_
 refine kLn ?_
 intro hp
 have h := h p0 p1 p2 p3 p4 p5 p6 p7 p8 p9 p10 p11 p12 p13 p14 p15 p16 p17 p18 p19 p20 p21 p22 p23 p24 p25 p26 p27 p28 p29 p0k p1lo p1hi p2lo p2hi p3lo p3hi p4lo p4hi p5lo p5hi p6lo p6hi p7lo p7hi p8lo p8hi p9lo p9hi p10lo p10hi p11lo p11hi p12lo p12hi p13lo p13hi p14lo p14hi p15lo p15hi p16lo p16hi p17lo p17hi p18lo p18hi p19lo p19hi p20lo p20hi p21lo p21hi p22lo p22hi p23lo p23hi p24lo p24hi p25lo p25hi p26lo p26hi p27k p28lo p28hi p29k hp
 exact ⟨h.1, step_law22_FR_6 p0 p1 p2 p3 p4 p5 p6 p7 p8 p9 p10 p11 p12 p13 p14 p15 p16 p17 p18 p19 p20 p21 p22 p23 p24 p25 p26 p27 p28 p29, h.2⟩)
theorem ok_law22_FR_6 : LoopTrue Tryz.prog InvN LC_law22_FR_6 := lp_law22_FR_6 (fun xs => (8 - num (xs.getD 2 undef)).toNat) (by
 intro p0 p1 p2 p3 p4 p5 p6 p7 p8 p9 p10 p11 p12 p13 p14 p15 p16 p17 p18 p19 p20 p21 p22 p23 p24 p25 p26 p27 p28 p29 hk _ _ _ _ _ _ _ _ _ _ _ _ _ _ _ _ _ _ _ _ _ _ _ _ _ _ _ _ _ _ _ _ _ _ _ _ _ _ _ _ _ _ _ _ _ _ _ _ _ _ _ _ _ _ _ _ hp
 have hp : (decide (0 ≤ p2) && oneB (.int .u16 255) (.int .u16 p26) p27 (.int .u16 p28) p29) = true := hp
 simp only [Bool.and_eq_true, decide_eq_true_eq, oneB_iff] at hp
 obtain ⟨h0, m, hm, e1, e2, e3, rfl, g⟩ := hp
 cases e1; cases e2; cases e3
 rw [okBL_law22_FR_6]
 refine ⟨bif_ok (fun h1 => bif_ok (fun h2 => bif_ok (fun _ => ?_) (fun h => bool_no (INB_of h0 (of_decide_eq_true h1)) h)) (fun _ => rfl)) (fun _ => rfl), ?_⟩
 ·simp only [pre_step g, cond_true]
 ·unfold OUT_law22_FR_6
  refine okO_bif (fun h1 => okO_bif (fun h2 => ?_) (fun _ => okO_exit 1)) (fun _ => okO_exit 1)
  have h2 : p2 < 8 := of_decide_eq_true h2
  obtain ⟨L', hx, gl⟩ := stepRaw (e := IX p0 p2) (fr := false) g hm (raw_at hk h0 (of_decide_eq_true h1))
  simp only [INB_of h0 (of_decide_eq_true h1), pre_step g, hx, List.getD_cons_succ, List.getD_cons_zero, num_int, tru, Bool.not_true, cond_true, cond_false]
  refine okO_next ?_ ?_
  ·show (decide (0 ≤ IntKind.i64.wrap (p2 + 1)) && oneB (.int .u16 255) (.int .u16 255) L' (.int .u16 255) L') = true
   rw [i64_in (by omega) (by omega), oneB_of hm gl, decide_eq_true (by omega)]
   rfl
  ·show (8 - IntKind.i64.wrap (p2 + 1)).toNat < _
   rw [i64_in (by omega) (by omega)]
   omega)
theorem rej_ends {p0 : Value} (hk : inKind (.l RAW) p0) (p1 c0 c1 c2 c3 c4 c5 c6 c7 c8 c9 c10 c11 c12 c13 c14 c15 c16 c17 c18 c19 c20 c21 c22 : Int) : ∀ (N : Nat) (i : Int) (L : Value), (8 - i).toNat ≤ N → 0 ≤ i → Good L → ∃ L', LF_law22_FR_6 [p0, .int .i64 p1, .int .i64 i, .int .i64 c0, .int .i64 c1, .int .i64 c2, .int .i64 c3, .int .i64 c4, .int .i64 c5, .int .i64 c6, .int .i64 c7, .int .i64 c8, .int .i64 c9, .int .i64 c10, .int .i64 c11, .int .i64 c12, .int .i64 c13, .int .i64 c14, .int .i64 c15, .int .i64 c16, .int .i64 c17, .int .u16 c18, .int .u16 c19, .int .u16 c20, .int .u16 c21, .int .u16 c22, .int .u16 255, L, .int .u16 255, L] = [.int .i64 1, .int .i64 p1, .int .i64 c0, .int .i64 c1, .int .i64 c2, .int .i64 c3, .int .i64 c4, .int .i64 c5, .int .i64 c6, .int .i64 c7, .int .i64 c8, .int .i64 c9, .int .i64 c10, .int .i64 c11, .int .i64 c12, .int .i64 c13, .int .i64 c14, .int .i64 c15, .int .i64 c16, .int .i64 c17, .int .u16 c18, .int .u16 c19, .int .u16 c20, .int .u16 c21, .int .u16 c22, .int .u16 255, L', .int .u16 255, L'] ∧ Good L'
 | N, i, L, hN, h0, g => by
  rw [LF_law22_FR_6_go]
  unfold OUT_law22_FR_6
  by_cases h1 : i < LN p0
  ·rw [decide_eq_true h1, cond_true]
   by_cases h2 : i < 8
   ·rw [decide_eq_true h2, cond_true]
    obtain ⟨L', hx, gl⟩ := stepRaw (e := IX p0 i) (fr := false) g (.inl rfl) (raw_at hk h0 h1)
    simp only [INB_of h0 h1, pre_step g, hx, List.getD_cons_succ, List.getD_cons_zero, num_int, tru, Bool.not_true, cond_true, cond_false, goOn_next]
    rw [i64_in (by omega) (by omega)]
    match N, hN with
    | 0, hN => exact absurd hN (by omega)
    | N + 1, hN => exact rej_ends hk p1 c0 c1 c2 c3 c4 c5 c6 c7 c8 c9 c10 c11 c12 c13 c14 c15 c16 c17 c18 c19 c20 c21 c22 N (i + 1) L' (by omega) (by omega) gl
   ·rw [decide_eq_false h2]
    exact ⟨L, rfl, g⟩
  ·rw [decide_eq_false h1]
   exact ⟨L, rfl, g⟩
noncomputable def L_law22_FR : List Value → List Value := Classical.choose (veil fun vs => (evFM ⟨[C_law22_same], [LC_fM_Push, LC_fM_Draw, LC_law22_step, LC_law22_FR_6]⟩ Tryz.prog [S_gen_Mod, S_r1_Full, S_gen_Pixel, S_gen_Op, S_law22_awake] 1000 4 (inL A_law22_FR vs) R_law22_FR).outL)
theorem L_law22_FR_is (vs : List Value) : L_law22_FR vs = (evFM ⟨[C_law22_same], [LC_fM_Push, LC_fM_Draw, LC_law22_step, LC_law22_FR_6]⟩ Tryz.prog [S_gen_Mod, S_r1_Full, S_gen_Pixel, S_gen_Op, S_law22_awake] 1000 4 (inL A_law22_FR vs) R_law22_FR).outL := Classical.choose_spec (veil _) vs
noncomputable def S_law22_FR : Sum := ⟨4, L_law22_FR, A_law22_FR, R_law22_FR⟩
theorem env_law22_FR : EnvOK Tryz.prog InvN ⟨[C_law22_same], [LC_fM_Push, LC_fM_Draw, LC_law22_step, LC_law22_FR_6]⟩ ∧ AllOK Tryz.prog InvN [S_gen_Mod, S_r1_Full, S_gen_Pixel, S_gen_Op, S_law22_awake] := ⟨⟨(allC_cons ok_law22_same allC_nil), (allL_cons ok_fM_Push (allL_cons ok_fM_Draw (allL_cons ok_law22_step (allL_cons ok_law22_FR_6 allL_nil))))⟩, (allOK_cons ok_gen_Mod.any (allOK_cons ok_r1_Full.any (allOK_cons ok_gen_Pixel (allOK_cons ok_gen_Op (allOK_cons ok_law22_awake allOK_nil)))))⟩
theorem okG_law22_FR (vs : List Value) : (evFM ⟨[C_law22_same], [LC_fM_Push, LC_fM_Draw, LC_law22_step, LC_law22_FR_6]⟩ Tryz.prog [S_gen_Mod, S_r1_Full, S_gen_Pixel, S_gen_Op, S_law22_awake] 1000 4 (inL A_law22_FR vs) R_law22_FR).goodX R_law22_FR = true := by kernel_rfl
theorem okB_law22_FR (p0 : Value) (p1 p2 p3 p4 p5 p6 p7 p8 p9 p10 p11 p12 p13 p14 p15 p16 p17 p18 p19 p20 p21 p22 p23 p24 : Int) : (evFM ⟨[C_law22_same], [LC_fM_Push, LC_fM_Draw, LC_law22_step, LC_law22_FR_6]⟩ Tryz.prog [S_gen_Mod, S_r1_Full, S_gen_Pixel, S_gen_Op, S_law22_awake] 1000 4 (inL A_law22_FR [p0, .int .i64 p1, .int .i64 p2, .int .i64 p3, .int .i64 p4, .int .i64 p5, .int .i64 p6, .int .i64 p7, .int .i64 p8, .int .i64 p9, .int .i64 p10, .int .i64 p11, .int .i64 p12, .int .i64 p13, .int .i64 p14, .int .i64 p15, .int .i64 p16, .int .i64 p17, .int .i64 p18, .int .i64 p19, .int .u16 p20, .int .u16 p21, .int .u16 p22, .int .u16 p23, .int .u16 p24]) R_law22_FR).ok =
 let x0 := F_r1_Full 255
 bif (!x0) then
 (let x1 := F_law22_awake
 bif (!x1) then
 (true)
 else
 (false))
 else
 (let x2 := F_law22_awake
 bif (!x2) then
 (true)
 else
 (bif (pre_law22_FR_6 [p0, .int .i64 p1, .int .i64 0, .int .i64 p2, .int .i64 p3, .int .i64 p4, .int .i64 p5, .int .i64 p6, .int .i64 p7, .int .i64 p8, .int .i64 p9, .int .i64 p10, .int .i64 p11, .int .i64 p12, .int .i64 p13, .int .i64 p14, .int .i64 p15, .int .i64 p16, .int .i64 p17, .int .i64 p18, .int .i64 p19, .int .u16 p20, .int .u16 p21, .int .u16 p22, .int .u16 p23, .int .u16 p24, .int .u16 255, (LSV 23 1 baseC), .int .u16 255, (LSV 23 1 baseC)]) then
 (let x3 := LF_law22_FR_6 [p0, .int .i64 p1, .int .i64 0, .int .i64 p2, .int .i64 p3, .int .i64 p4, .int .i64 p5, .int .i64 p6, .int .i64 p7, .int .i64 p8, .int .i64 p9, .int .i64 p10, .int .i64 p11, .int .i64 p12, .int .i64 p13, .int .i64 p14, .int .i64 p15, .int .i64 p16, .int .i64 p17, .int .i64 p18, .int .i64 p19, .int .u16 p20, .int .u16 p21, .int .u16 p22, .int .u16 p23, .int .u16 p24, .int .u16 255, (LSV 23 1 baseC), .int .u16 255, (LSV 23 1 baseC)]
 bif (IXT x3 0) then
 (true)
 else
 (let x4 := F_gen_Mod (num (x3.getD 1 undef)) 6
 bif (x4 == 0) then
 (let x5 := F_gen_Op (num (x3.getD 3 undef)) (num (x3.getD 4 undef)) (num (x3.getD 5 undef)) (num (x3.getD 6 undef)) (num (x3.getD 7 undef)) (num (x3.getD 8 undef)) (num (x3.getD 9 undef)) (num (x3.getD 10 undef)) (num (x3.getD 11 undef)) (num (x3.getD 12 undef)) (num (x3.getD 13 undef)) false 3 0 0 3 3 false 255
 let x6 := F_gen_Pixel (num (x3.getD 14 undef)) (num (x3.getD 15 undef)) (num (x3.getD 16 undef)) (num (x3.getD 17 undef)) (num (x3.getD 18 undef)) 255
 bif (pre_fM_Draw [.int .i64 2, .int .i64 x5.2.1, .int .i64 x5.2.2.1, .int .i64 x5.2.2.2.1, .int .i64 x5.2.2.2.2.1, .int .i64 x5.2.2.2.2.2.1, .int .i64 x5.2.2.2.2.2.2.1, .int .u16 x5.2.2.2.2.2.2.2.1, .int .i64 x5.2.2.2.2.2.2.2.2.1, .int .i64 x5.2.2.2.2.2.2.2.2.2.1, .bool x5.2.2.2.2.2.2.2.2.2.2.1, .bool x5.2.2.2.2.2.2.2.2.2.2.2, .int .u16 x6.1, .int .u16 x6.2.1, .int .u16 x6.2.2.1, .int .u16 x6.2.2.2.1, .int .u16 x6.2.2.2.2, .int .u16 0, .int .u16 (num (x3.getD 25 undef)), (x3.getD 26 undef)]) then
 (let x7 := LF_fM_Draw [.int .i64 2, .int .i64 x5.2.1, .int .i64 x5.2.2.1, .int .i64 x5.2.2.2.1, .int .i64 x5.2.2.2.2.1, .int .i64 x5.2.2.2.2.2.1, .int .i64 x5.2.2.2.2.2.2.1, .int .u16 x5.2.2.2.2.2.2.2.1, .int .i64 x5.2.2.2.2.2.2.2.2.1, .int .i64 x5.2.2.2.2.2.2.2.2.2.1, .bool x5.2.2.2.2.2.2.2.2.2.2.1, .bool x5.2.2.2.2.2.2.2.2.2.2.2, .int .u16 x6.1, .int .u16 x6.2.1, .int .u16 x6.2.2.1, .int .u16 x6.2.2.2.1, .int .u16 x6.2.2.2.2, .int .u16 0, .int .u16 (num (x3.getD 25 undef)), (x3.getD 26 undef)]
 bif ((num (x7.getD 6 undef)) == 20) then
 (bif (pre_law22_same [(PK [.int .u16 (num (x7.getD 7 undef)), (x7.getD 8 undef)]), (PK [.int .u16 (num (x3.getD 27 undef)), (x3.getD 28 undef)])]) then
 (true)
 else
 (false))
 else
 (true))
 else
 (false))
 else
 (bif (x4 == 1) then
 (let x8 := F_gen_Op (num (x3.getD 3 undef)) (num (x3.getD 4 undef)) (num (x3.getD 5 undef)) (num (x3.getD 6 undef)) (num (x3.getD 7 undef)) (num (x3.getD 8 undef)) (num (x3.getD 9 undef)) (num (x3.getD 10 undef)) (num (x3.getD 11 undef)) (num (x3.getD 12 undef)) (num (x3.getD 13 undef)) false 3 0 0 3 3 false 255
 let x9 := F_gen_Pixel (num (x3.getD 14 undef)) (num (x3.getD 15 undef)) (num (x3.getD 16 undef)) (num (x3.getD 17 undef)) (num (x3.getD 18 undef)) 255
 bif (pre_fM_Draw [.int .i64 x8.1, .int .i64 x8.2.1, .int .i64 x8.2.2.1, .int .i64 x8.2.2.2.1, .int .i64 x8.2.2.2.2.1, .int .i64 x8.2.2.2.2.2.1, .int .i64 x8.2.2.2.2.2.2.1, .int .u16 256, .int .i64 x8.2.2.2.2.2.2.2.2.1, .int .i64 x8.2.2.2.2.2.2.2.2.2.1, .bool x8.2.2.2.2.2.2.2.2.2.2.1, .bool x8.2.2.2.2.2.2.2.2.2.2.2, .int .u16 x9.1, .int .u16 x9.2.1, .int .u16 x9.2.2.1, .int .u16 x9.2.2.2.1, .int .u16 x9.2.2.2.2, .int .u16 0, .int .u16 (num (x3.getD 25 undef)), (x3.getD 26 undef)]) then
 (let x10 := LF_fM_Draw [.int .i64 x8.1, .int .i64 x8.2.1, .int .i64 x8.2.2.1, .int .i64 x8.2.2.2.1, .int .i64 x8.2.2.2.2.1, .int .i64 x8.2.2.2.2.2.1, .int .i64 x8.2.2.2.2.2.2.1, .int .u16 256, .int .i64 x8.2.2.2.2.2.2.2.2.1, .int .i64 x8.2.2.2.2.2.2.2.2.2.1, .bool x8.2.2.2.2.2.2.2.2.2.2.1, .bool x8.2.2.2.2.2.2.2.2.2.2.2, .int .u16 x9.1, .int .u16 x9.2.1, .int .u16 x9.2.2.1, .int .u16 x9.2.2.2.1, .int .u16 x9.2.2.2.2, .int .u16 0, .int .u16 (num (x3.getD 25 undef)), (x3.getD 26 undef)]
 bif ((num (x10.getD 6 undef)) == 20) then
 (bif (pre_law22_same [(PK [.int .u16 (num (x10.getD 7 undef)), (x10.getD 8 undef)]), (PK [.int .u16 (num (x3.getD 27 undef)), (x3.getD 28 undef)])]) then
 (true)
 else
 (false))
 else
 (true))
 else
 (false))
 else
 (bif (x4 == 2) then
 (let x11 := F_gen_Op (num (x3.getD 3 undef)) (num (x3.getD 4 undef)) (num (x3.getD 5 undef)) (num (x3.getD 6 undef)) (num (x3.getD 7 undef)) (num (x3.getD 8 undef)) (num (x3.getD 9 undef)) (num (x3.getD 10 undef)) (num (x3.getD 11 undef)) (num (x3.getD 12 undef)) (num (x3.getD 13 undef)) false 3 0 0 3 3 false 255
 let x12 := F_gen_Pixel (num (x3.getD 14 undef)) (num (x3.getD 15 undef)) (num (x3.getD 16 undef)) (num (x3.getD 17 undef)) (num (x3.getD 18 undef)) 255
 bif (pre_fM_Draw [.int .i64 x11.1, .int .i64 x11.2.1, .int .i64 x11.2.2.1, .int .i64 x11.2.2.2.1, .int .i64 1, .int .i64 x11.2.2.2.2.2.1, .int .i64 x11.2.2.2.2.2.2.1, .int .u16 x11.2.2.2.2.2.2.2.1, .int .i64 x11.2.2.2.2.2.2.2.2.1, .int .i64 x11.2.2.2.2.2.2.2.2.2.1, .bool x11.2.2.2.2.2.2.2.2.2.2.1, .bool x11.2.2.2.2.2.2.2.2.2.2.2, .int .u16 x12.1, .int .u16 x12.2.1, .int .u16 x12.2.2.1, .int .u16 x12.2.2.2.1, .int .u16 x12.2.2.2.2, .int .u16 256, .int .u16 (num (x3.getD 25 undef)), (x3.getD 26 undef)]) then
 (let x13 := LF_fM_Draw [.int .i64 x11.1, .int .i64 x11.2.1, .int .i64 x11.2.2.1, .int .i64 x11.2.2.2.1, .int .i64 1, .int .i64 x11.2.2.2.2.2.1, .int .i64 x11.2.2.2.2.2.2.1, .int .u16 x11.2.2.2.2.2.2.2.1, .int .i64 x11.2.2.2.2.2.2.2.2.1, .int .i64 x11.2.2.2.2.2.2.2.2.2.1, .bool x11.2.2.2.2.2.2.2.2.2.2.1, .bool x11.2.2.2.2.2.2.2.2.2.2.2, .int .u16 x12.1, .int .u16 x12.2.1, .int .u16 x12.2.2.1, .int .u16 x12.2.2.2.1, .int .u16 x12.2.2.2.2, .int .u16 256, .int .u16 (num (x3.getD 25 undef)), (x3.getD 26 undef)]
 bif ((num (x13.getD 6 undef)) == 20) then
 (bif (pre_law22_same [(PK [.int .u16 (num (x13.getD 7 undef)), (x13.getD 8 undef)]), (PK [.int .u16 (num (x3.getD 27 undef)), (x3.getD 28 undef)])]) then
 (true)
 else
 (false))
 else
 (true))
 else
 (false))
 else
 (bif (x4 == 3) then
 (let x14 := F_gen_Op (num (x3.getD 3 undef)) (num (x3.getD 4 undef)) (num (x3.getD 5 undef)) (num (x3.getD 6 undef)) (num (x3.getD 7 undef)) (num (x3.getD 8 undef)) (num (x3.getD 9 undef)) (num (x3.getD 10 undef)) (num (x3.getD 11 undef)) (num (x3.getD 12 undef)) (num (x3.getD 13 undef)) false 3 0 0 3 3 false 255
 let x15 := F_gen_Pixel (num (x3.getD 14 undef)) (num (x3.getD 15 undef)) (num (x3.getD 16 undef)) (num (x3.getD 17 undef)) (num (x3.getD 18 undef)) 255
 bif (pre_fM_Draw [.int .i64 x14.1, .int .i64 x14.2.1, .int .i64 x14.2.2.1, .int .i64 x14.2.2.2.1, .int .i64 x14.2.2.2.2.1, .int .i64 x14.2.2.2.2.2.1, .int .i64 x14.2.2.2.2.2.2.1, .int .u16 x14.2.2.2.2.2.2.2.1, .int .i64 x14.2.2.2.2.2.2.2.2.1, .int .i64 x14.2.2.2.2.2.2.2.2.2.1, .bool x14.2.2.2.2.2.2.2.2.2.2.1, .bool x14.2.2.2.2.2.2.2.2.2.2.2, .int .u16 x15.1, .int .u16 x15.2.1, .int .u16 x15.2.2.1, .int .u16 x15.2.2.2.1, .int .u16 256, .int .u16 0, .int .u16 (num (x3.getD 25 undef)), (x3.getD 26 undef)]) then
 (let x16 := LF_fM_Draw [.int .i64 x14.1, .int .i64 x14.2.1, .int .i64 x14.2.2.1, .int .i64 x14.2.2.2.1, .int .i64 x14.2.2.2.2.1, .int .i64 x14.2.2.2.2.2.1, .int .i64 x14.2.2.2.2.2.2.1, .int .u16 x14.2.2.2.2.2.2.2.1, .int .i64 x14.2.2.2.2.2.2.2.2.1, .int .i64 x14.2.2.2.2.2.2.2.2.2.1, .bool x14.2.2.2.2.2.2.2.2.2.2.1, .bool x14.2.2.2.2.2.2.2.2.2.2.2, .int .u16 x15.1, .int .u16 x15.2.1, .int .u16 x15.2.2.1, .int .u16 x15.2.2.2.1, .int .u16 256, .int .u16 0, .int .u16 (num (x3.getD 25 undef)), (x3.getD 26 undef)]
 bif ((num (x16.getD 6 undef)) == 20) then
 (bif (pre_law22_same [(PK [.int .u16 (num (x16.getD 7 undef)), (x16.getD 8 undef)]), (PK [.int .u16 (num (x3.getD 27 undef)), (x3.getD 28 undef)])]) then
 (true)
 else
 (false))
 else
 (true))
 else
 (false))
 else
 (bif (x4 == 4) then
 (let x17 := F_gen_Op (num (x3.getD 3 undef)) (num (x3.getD 4 undef)) (num (x3.getD 5 undef)) (num (x3.getD 6 undef)) (num (x3.getD 7 undef)) (num (x3.getD 8 undef)) (num (x3.getD 9 undef)) (num (x3.getD 10 undef)) (num (x3.getD 11 undef)) (num (x3.getD 12 undef)) (num (x3.getD 13 undef)) false 3 0 0 3 3 false 255
 bif (pre_fM_Push [.int .i64 x17.1, .int .i64 x17.2.1, .int .i64 x17.2.2.1, .int .i64 x17.2.2.2.1, .int .i64 x17.2.2.2.2.1, .int .i64 x17.2.2.2.2.2.1, .int .i64 x17.2.2.2.2.2.2.1, .int .u16 x17.2.2.2.2.2.2.2.1, .int .i64 x17.2.2.2.2.2.2.2.2.1, .int .i64 x17.2.2.2.2.2.2.2.2.2.1, .bool x17.2.2.2.2.2.2.2.2.2.2.1, .bool x17.2.2.2.2.2.2.2.2.2.2.2, .int .u16 (num (x3.getD 25 undef)), (x3.getD 26 undef)]) then
 (let x18 := LF_fM_Push [.int .i64 x17.1, .int .i64 x17.2.1, .int .i64 x17.2.2.1, .int .i64 x17.2.2.2.1, .int .i64 x17.2.2.2.2.1, .int .i64 x17.2.2.2.2.2.1, .int .i64 x17.2.2.2.2.2.2.1, .int .u16 x17.2.2.2.2.2.2.2.1, .int .i64 x17.2.2.2.2.2.2.2.2.1, .int .i64 x17.2.2.2.2.2.2.2.2.2.1, .bool x17.2.2.2.2.2.2.2.2.2.2.1, .bool x17.2.2.2.2.2.2.2.2.2.2.2, .int .u16 (num (x3.getD 25 undef)), (x3.getD 26 undef)]
 bif ((num (x18.getD 1 undef)) == 20) then
 (bif (pre_law22_same [(PK [.int .u16 (num (x18.getD 2 undef)), (x18.getD 3 undef)]), (PK [.int .u16 (num (x3.getD 27 undef)), (x3.getD 28 undef)])]) then
 (true)
 else
 (false))
 else
 (true))
 else
 (false))
 else
 (let x19 := F_gen_Op (num (x3.getD 3 undef)) (num (x3.getD 4 undef)) (num (x3.getD 5 undef)) (num (x3.getD 6 undef)) (num (x3.getD 7 undef)) (num (x3.getD 8 undef)) (num (x3.getD 9 undef)) (num (x3.getD 10 undef)) (num (x3.getD 11 undef)) (num (x3.getD 12 undef)) (num (x3.getD 13 undef)) false 3 0 0 3 3 false 255
 let x20 := F_gen_Pixel (num (x3.getD 14 undef)) (num (x3.getD 15 undef)) (num (x3.getD 16 undef)) (num (x3.getD 17 undef)) (num (x3.getD 18 undef)) 255
 bif (pre_fM_Draw [.int .i64 x19.1, .int .i64 x19.2.1, .int .i64 x19.2.2.1, .int .i64 x19.2.2.2.1, .int .i64 x19.2.2.2.2.1, .int .i64 x19.2.2.2.2.2.1, .int .i64 x19.2.2.2.2.2.2.1, .int .u16 x19.2.2.2.2.2.2.2.1, .int .i64 x19.2.2.2.2.2.2.2.2.1, .int .i64 x19.2.2.2.2.2.2.2.2.2.1, .bool x19.2.2.2.2.2.2.2.2.2.2.1, .bool x19.2.2.2.2.2.2.2.2.2.2.2, .int .u16 x20.1, .int .u16 (IntKind.u16.wrap (x20.2.2.2.1 + 1)), .int .u16 x20.2.2.1, .int .u16 x20.2.2.2.1, .int .u16 x20.2.2.2.2, .int .u16 0, .int .u16 (num (x3.getD 25 undef)), (x3.getD 26 undef)]) then
 (let x21 := LF_fM_Draw [.int .i64 x19.1, .int .i64 x19.2.1, .int .i64 x19.2.2.1, .int .i64 x19.2.2.2.1, .int .i64 x19.2.2.2.2.1, .int .i64 x19.2.2.2.2.2.1, .int .i64 x19.2.2.2.2.2.2.1, .int .u16 x19.2.2.2.2.2.2.2.1, .int .i64 x19.2.2.2.2.2.2.2.2.1, .int .i64 x19.2.2.2.2.2.2.2.2.2.1, .bool x19.2.2.2.2.2.2.2.2.2.2.1, .bool x19.2.2.2.2.2.2.2.2.2.2.2, .int .u16 x20.1, .int .u16 (IntKind.u16.wrap (x20.2.2.2.1 + 1)), .int .u16 x20.2.2.1, .int .u16 x20.2.2.2.1, .int .u16 x20.2.2.2.2, .int .u16 0, .int .u16 (num (x3.getD 25 undef)), (x3.getD 26 undef)]
 bif ((num (x21.getD 6 undef)) == 20) then
 (bif (pre_law22_same [(PK [.int .u16 (num (x21.getD 7 undef)), (x21.getD 8 undef)]), (PK [.int .u16 (num (x3.getD 27 undef)), (x3.getD 28 undef)])]) then
 (true)
 else
 (false))
 else
 (true))
 else
 (false))))))))
 else
 (false))) := (okR_eq _).trans (by kernel_rfl)
theorem okA_law22_FR (h : ∀ p0 p1 p2 p3 p4 p5 p6 p7 p8 p9 p10 p11 p12 p13 p14 p15 p16 p17 p18 p19 p20 p21 p22 p23 p24 , inKind (.l RAW) p0 → IntKind.i64.min ≤ p1 → p1 ≤ IntKind.i64.max → IntKind.i64.min ≤ p2 → p2 ≤ IntKind.i64.max → IntKind.i64.min ≤ p3 → p3 ≤ IntKind.i64.max → IntKind.i64.min ≤ p4 → p4 ≤ IntKind.i64.max → IntKind.i64.min ≤ p5 → p5 ≤ IntKind.i64.max → IntKind.i64.min ≤ p6 → p6 ≤ IntKind.i64.max → IntKind.i64.min ≤ p7 → p7 ≤ IntKind.i64.max → IntKind.i64.min ≤ p8 → p8 ≤ IntKind.i64.max → IntKind.i64.min ≤ p9 → p9 ≤ IntKind.i64.max → IntKind.i64.min ≤ p10 → p10 ≤ IntKind.i64.max → IntKind.i64.min ≤ p11 → p11 ≤ IntKind.i64.max → IntKind.i64.min ≤ p12 → p12 ≤ IntKind.i64.max → IntKind.i64.min ≤ p13 → p13 ≤ IntKind.i64.max → IntKind.i64.min ≤ p14 → p14 ≤ IntKind.i64.max → IntKind.i64.min ≤ p15 → p15 ≤ IntKind.i64.max → IntKind.i64.min ≤ p16 → p16 ≤ IntKind.i64.max → IntKind.i64.min ≤ p17 → p17 ≤ IntKind.i64.max → IntKind.i64.min ≤ p18 → p18 ≤ IntKind.i64.max → IntKind.i64.min ≤ p19 → p19 ≤ IntKind.i64.max → IntKind.u16.min ≤ p20 → p20 ≤ IntKind.u16.max → IntKind.u16.min ≤ p21 → p21 ≤ IntKind.u16.max → IntKind.u16.min ≤ p22 → p22 ≤ IntKind.u16.max → IntKind.u16.min ≤ p23 → p23 ≤ IntKind.u16.max → IntKind.u16.min ≤ p24 → p24 ≤ IntKind.u16.max → (evFM ⟨[C_law22_same], [LC_fM_Push, LC_fM_Draw, LC_law22_step, LC_law22_FR_6]⟩ Tryz.prog [S_gen_Mod, S_r1_Full, S_gen_Pixel, S_gen_Op, S_law22_awake] 1000 4 (inL A_law22_FR [p0, .int .i64 p1, .int .i64 p2, .int .i64 p3, .int .i64 p4, .int .i64 p5, .int .i64 p6, .int .i64 p7, .int .i64 p8, .int .i64 p9, .int .i64 p10, .int .i64 p11, .int .i64 p12, .int .i64 p13, .int .i64 p14, .int .i64 p15, .int .i64 p16, .int .i64 p17, .int .i64 p18, .int .i64 p19, .int .u16 p20, .int .u16 p21, .int .u16 p22, .int .u16 p23, .int .u16 p24]) R_law22_FR).ok = true) : SumOK Tryz.prog InvN S_law22_FR := sumOK_partL invN_stays env_law22_FR.1 env_law22_FR.2 1000 4 A_law22_FR R_law22_FR L_law22_FR_is okG_law22_FR (by
 refine kLc fun p0 p0k => ?_
 refine kLi fun p1 p1lo p1hi => ?_
 refine kLi fun p2 p2lo p2hi => ?_
 refine kLi fun p3 p3lo p3hi => ?_
 refine kLi fun p4 p4lo p4hi => ?_
 refine kLi fun p5 p5lo p5hi => ?_
 refine kLi fun p6 p6lo p6hi => ?_
 refine kLi fun p7 p7lo p7hi => ?_
 refine kLi fun p8 p8lo p8hi => ?_
 refine kLi fun p9 p9lo p9hi => ?_
 refine kLi fun p10 p10lo p10hi => ?_
 refine kLi fun p11 p11lo p11hi => ?_
 refine kLi fun p12 p12lo p12hi => ?_
 refine kLi fun p13 p13lo p13hi => ?_
 refine kLi fun p14 p14lo p14hi => ?_
 refine kLi fun p15 p15lo p15hi => ?_
 refine kLi fun p16 p16lo p16hi => ?_
 refine kLi fun p17 p17lo p17hi => ?_
 refine kLi fun p18 p18lo p18hi => ?_
 refine kLi fun p19 p19lo p19hi => ?_
 refine kLi fun p20 p20lo p20hi => ?_
 refine kLi fun p21 p21lo p21hi => ?_
 refine kLi fun p22 p22lo p22hi => ?_
 refine kLi fun p23 p23lo p23hi => ?_
 refine kLi fun p24 p24lo p24hi => ?_
 refine kLn ?_
 exact h p0 p1 p2 p3 p4 p5 p6 p7 p8 p9 p10 p11 p12 p13 p14 p15 p16 p17 p18 p19 p20 p21 p22 p23 p24 p0k p1lo p1hi p2lo p2hi p3lo p3hi p4lo p4hi p5lo p5hi p6lo p6hi p7lo p7hi p8lo p8hi p9lo p9hi p10lo p10hi p11lo p11hi p12lo p12hi p13lo p13hi p14lo p14hi p15lo p15hi p16lo p16hi p17lo p17hi p18lo p18hi p19lo p19hi p20lo p20hi p21lo p21hi p22lo p22hi p23lo p23hi p24lo p24hi)
theorem rej_start (p0 : Value) (p1 p2 p3 p4 p5 p6 p7 p8 p9 p10 p11 p12 p13 p14 p15 p16 p17 p18 p19 p20 p21 p22 p23 p24 : Int) : pre_law22_FR_6 [p0, .int .i64 p1, .int .i64 0, .int .i64 p2, .int .i64 p3, .int .i64 p4, .int .i64 p5, .int .i64 p6, .int .i64 p7, .int .i64 p8, .int .i64 p9, .int .i64 p10, .int .i64 p11, .int .i64 p12, .int .i64 p13, .int .i64 p14, .int .i64 p15, .int .i64 p16, .int .i64 p17, .int .i64 p18, .int .i64 p19, .int .u16 p20, .int .u16 p21, .int .u16 p22, .int .u16 p23, .int .u16 p24, .int .u16 255, LSV 23 1 baseC, .int .u16 255, LSV 23 1 baseC] = true := by
 show (decide ((0 : Int) ≤ 0) && oneB (.int .u16 255) (.int .u16 255) (LSV 23 1 baseC) (.int .u16 255) (LSV 23 1 baseC)) = true
 rw [oneB_of (.inl rfl) base_good]
 rfl
theorem push_ok {a0 a1 a2 a3 a4 a5 a6 a7 a8 a9 : Int} {a10 a11 : Bool} {a12 : Int} {L : Value} (g : Good L) : lenOK ((LF_fM_Push [.int .i64 a0, .int .i64 a1, .int .i64 a2, .int .i64 a3, .int .i64 a4, .int .i64 a5, .int .i64 a6, .int .u16 a7, .int .i64 a8, .int .i64 a9, .bool a10, .bool a11, .int .u16 a12, L]).getD 3 undef) = true := by
 obtain ⟨e, L', h, hl⟩ := push_len a0 a1 a2 a3 a4 a5 a6 a7 a8 a9 a10 a11 a12 L g.ok
 rw [h]
 have := g.l
 have := g.u
 exact lenOK.of (by show 1 ≤ LN L'; omega) (by show LN L' ≤ 1000; omega)
theorem pre_same2 {a b : Value} (ha : lenOK a = true) (hb : lenOK b = true) (x y : Value) : pre_law22_same [PK [x, a], PK [y, b]] = true := by
 show (lenOK a && lenOK b) = true
 rw [ha, hb]
 rfl
theorem fin_ok {c d : Bool} (h : d = true) : (bif c then (bif d then true else false) else true) = true := by
 rw [h]
 cases c <;> rfl
set_option maxHeartbeats 4000000 in
theorem ok_law22_FR : SumOK Tryz.prog InvN S_law22_FR := okA_law22_FR (by
 intro p0 p1 p2 p3 p4 p5 p6 p7 p8 p9 p10 p11 p12 p13 p14 p15 p16 p17 p18 p19 p20 p21 p22 p23 p24 hk _ _ _ _ _ _ _ _ _ _ _ _ _ _ _ _ _ _ _ _ _ _ _ _ _ _ _ _ _ _ _ _ _ _ _ _ _ _ _ _ _ _ _ _ _ _ _ _
 obtain ⟨L, hx, g⟩ := rej_ends hk p1 p2 p3 p4 p5 p6 p7 p8 p9 p10 p11 p12 p13 p14 p15 p16 p17 p18 p19 p20 p21 p22 p23 p24 _ 0 _ (Nat.le_refl _) (Int.le_refl 0) base_good
 have hp := rej_start p0 p1 p2 p3 p4 p5 p6 p7 p8 p9 p10 p11 p12 p13 p14 p15 p16 p17 p18 p19 p20 p21 p22 p23 p24
 have e0 : F_r1_Full 255 = true := by rw [full_dec]; rfl
 have ix : IXT [.int .i64 1, .int .i64 p1, .int .i64 p2, .int .i64 p3, .int .i64 p4, .int .i64 p5, .int .i64 p6, .int .i64 p7, .int .i64 p8, .int .i64 p9, .int .i64 p10, .int .i64 p11, .int .i64 p12, .int .i64 p13, .int .i64 p14, .int .i64 p15, .int .i64 p16, .int .i64 p17, .int .i64 p18, .int .i64 p19, .int .u16 p20, .int .u16 p21, .int .u16 p22, .int .u16 p23, .int .u16 p24, .int .u16 255, L, .int .u16 255, L] 0 = false := rfl
 have k1 : ∀ x0 x1 x2 x3 x4 x5 x6 x7 x8 x9 x10 x11 x12 x13 x14 x15 x16 x17 x18, pre_fM_Draw [x0, x1, x2, x3, x4, x5, x6, x7, x8, x9, x10, x11, x12, x13, x14, x15, x16, x17, x18, L] = true := fun _ _ _ _ _ _ _ _ _ _ _ _ _ _ _ _ _ _ _ => g.ok
 have k2 : ∀ x0 x1 x2 x3 x4 x5 x6 x7 x8 x9 x10 x11 x12, pre_fM_Push [x0, x1, x2, x3, x4, x5, x6, x7, x8, x9, x10, x11, x12, L] = true := fun _ _ _ _ _ _ _ _ _ _ _ _ _ => g.ok
 rw [okB_law22_FR]
 simp only [e0, awake22, Bool.not_true, cond_false, hp, cond_true, hx, ix, List.getD_cons_succ, List.getD_cons_zero, num_int, k1, k2]
 refine bif_ok (fun _ => fin_ok (pre_same2 (draw_ok g.ok) g.ok _ _)) (fun _ => bif_ok (fun _ => fin_ok (pre_same2 (draw_ok g.ok) g.ok _ _)) (fun _ => bif_ok (fun _ => fin_ok (pre_same2 (draw_ok g.ok) g.ok _ _)) (fun _ => bif_ok (fun _ => fin_ok (pre_same2 (draw_ok g.ok) g.ok _ _)) (fun _ => bif_ok (fun _ => fin_ok (pre_same2 (push_ok g) g.ok _ _)) (fun _ => fin_ok (pre_same2 (draw_ok g.ok) g.ok _ _)))))))
noncomputable def F_law22_FR (p0 : Value) (p1 p2 p3 p4 p5 p6 p7 p8 p9 p10 p11 p12 p13 p14 p15 p16 p17 p18 p19 p20 p21 p22 p23 p24 : Int) : Bool := (fun l => tru (l.getD 0 undef)) (L_law22_FR [p0, .int .i64 p1, .int .i64 p2, .int .i64 p3, .int .i64 p4, .int .i64 p5, .int .i64 p6, .int .i64 p7, .int .i64 p8, .int .i64 p9, .int .i64 p10, .int .i64 p11, .int .i64 p12, .int .i64 p13, .int .i64 p14, .int .i64 p15, .int .i64 p16, .int .i64 p17, .int .i64 p18, .int .i64 p19, .int .u16 p20, .int .u16 p21, .int .u16 p22, .int .u16 p23, .int .u16 p24])
theorem F_law22_FR_eq (p0 : Value) (p1 p2 p3 p4 p5 p6 p7 p8 p9 p10 p11 p12 p13 p14 p15 p16 p17 p18 p19 p20 p21 p22 p23 p24 : Int) : F_law22_FR p0 p1 p2 p3 p4 p5 p6 p7 p8 p9 p10 p11 p12 p13 p14 p15 p16 p17 p18 p19 p20 p21 p22 p23 p24 =
 let x0 := F_r1_Full 255
 bif (!x0) then
 (let x1 := F_law22_awake
 bif (!x1) then
 (false)
 else
 ((tru undef)))
 else
 (let x2 := F_law22_awake
 bif (!x2) then
 (false)
 else
 (bif (pre_law22_FR_6 [p0, .int .i64 p1, .int .i64 0, .int .i64 p2, .int .i64 p3, .int .i64 p4, .int .i64 p5, .int .i64 p6, .int .i64 p7, .int .i64 p8, .int .i64 p9, .int .i64 p10, .int .i64 p11, .int .i64 p12, .int .i64 p13, .int .i64 p14, .int .i64 p15, .int .i64 p16, .int .i64 p17, .int .i64 p18, .int .i64 p19, .int .u16 p20, .int .u16 p21, .int .u16 p22, .int .u16 p23, .int .u16 p24, .int .u16 255, (LSV 23 1 baseC), .int .u16 255, (LSV 23 1 baseC)]) then
 (let x3 := LF_law22_FR_6 [p0, .int .i64 p1, .int .i64 0, .int .i64 p2, .int .i64 p3, .int .i64 p4, .int .i64 p5, .int .i64 p6, .int .i64 p7, .int .i64 p8, .int .i64 p9, .int .i64 p10, .int .i64 p11, .int .i64 p12, .int .i64 p13, .int .i64 p14, .int .i64 p15, .int .i64 p16, .int .i64 p17, .int .i64 p18, .int .i64 p19, .int .u16 p20, .int .u16 p21, .int .u16 p22, .int .u16 p23, .int .u16 p24, .int .u16 255, (LSV 23 1 baseC), .int .u16 255, (LSV 23 1 baseC)]
 bif (IXT x3 0) then
 ((tru (x3.getD 1 undef)))
 else
 (let x4 := F_gen_Mod (num (x3.getD 1 undef)) 6
 bif (x4 == 0) then
 (let x5 := F_gen_Op (num (x3.getD 3 undef)) (num (x3.getD 4 undef)) (num (x3.getD 5 undef)) (num (x3.getD 6 undef)) (num (x3.getD 7 undef)) (num (x3.getD 8 undef)) (num (x3.getD 9 undef)) (num (x3.getD 10 undef)) (num (x3.getD 11 undef)) (num (x3.getD 12 undef)) (num (x3.getD 13 undef)) false 3 0 0 3 3 false 255
 let x6 := F_gen_Pixel (num (x3.getD 14 undef)) (num (x3.getD 15 undef)) (num (x3.getD 16 undef)) (num (x3.getD 17 undef)) (num (x3.getD 18 undef)) 255
 bif (pre_fM_Draw [.int .i64 2, .int .i64 x5.2.1, .int .i64 x5.2.2.1, .int .i64 x5.2.2.2.1, .int .i64 x5.2.2.2.2.1, .int .i64 x5.2.2.2.2.2.1, .int .i64 x5.2.2.2.2.2.2.1, .int .u16 x5.2.2.2.2.2.2.2.1, .int .i64 x5.2.2.2.2.2.2.2.2.1, .int .i64 x5.2.2.2.2.2.2.2.2.2.1, .bool x5.2.2.2.2.2.2.2.2.2.2.1, .bool x5.2.2.2.2.2.2.2.2.2.2.2, .int .u16 x6.1, .int .u16 x6.2.1, .int .u16 x6.2.2.1, .int .u16 x6.2.2.2.1, .int .u16 x6.2.2.2.2, .int .u16 0, .int .u16 (num (x3.getD 25 undef)), (x3.getD 26 undef)]) then
 (let x7 := LF_fM_Draw [.int .i64 2, .int .i64 x5.2.1, .int .i64 x5.2.2.1, .int .i64 x5.2.2.2.1, .int .i64 x5.2.2.2.2.1, .int .i64 x5.2.2.2.2.2.1, .int .i64 x5.2.2.2.2.2.2.1, .int .u16 x5.2.2.2.2.2.2.2.1, .int .i64 x5.2.2.2.2.2.2.2.2.1, .int .i64 x5.2.2.2.2.2.2.2.2.2.1, .bool x5.2.2.2.2.2.2.2.2.2.2.1, .bool x5.2.2.2.2.2.2.2.2.2.2.2, .int .u16 x6.1, .int .u16 x6.2.1, .int .u16 x6.2.2.1, .int .u16 x6.2.2.2.1, .int .u16 x6.2.2.2.2, .int .u16 0, .int .u16 (num (x3.getD 25 undef)), (x3.getD 26 undef)]
 bif ((num (x7.getD 6 undef)) == 20) then
 (bif (pre_law22_same [(PK [.int .u16 (num (x7.getD 7 undef)), (x7.getD 8 undef)]), (PK [.int .u16 (num (x3.getD 27 undef)), (x3.getD 28 undef)])]) then
 (let x8 := F_law22_same (PK [.int .u16 (num (x7.getD 7 undef)), (x7.getD 8 undef)]) (PK [.int .u16 (num (x3.getD 27 undef)), (x3.getD 28 undef)])
 x8)
 else
 ((tru undef)))
 else
 (false))
 else
 ((tru undef)))
 else
 (bif (x4 == 1) then
 (let x9 := F_gen_Op (num (x3.getD 3 undef)) (num (x3.getD 4 undef)) (num (x3.getD 5 undef)) (num (x3.getD 6 undef)) (num (x3.getD 7 undef)) (num (x3.getD 8 undef)) (num (x3.getD 9 undef)) (num (x3.getD 10 undef)) (num (x3.getD 11 undef)) (num (x3.getD 12 undef)) (num (x3.getD 13 undef)) false 3 0 0 3 3 false 255
 let x10 := F_gen_Pixel (num (x3.getD 14 undef)) (num (x3.getD 15 undef)) (num (x3.getD 16 undef)) (num (x3.getD 17 undef)) (num (x3.getD 18 undef)) 255
 bif (pre_fM_Draw [.int .i64 x9.1, .int .i64 x9.2.1, .int .i64 x9.2.2.1, .int .i64 x9.2.2.2.1, .int .i64 x9.2.2.2.2.1, .int .i64 x9.2.2.2.2.2.1, .int .i64 x9.2.2.2.2.2.2.1, .int .u16 256, .int .i64 x9.2.2.2.2.2.2.2.2.1, .int .i64 x9.2.2.2.2.2.2.2.2.2.1, .bool x9.2.2.2.2.2.2.2.2.2.2.1, .bool x9.2.2.2.2.2.2.2.2.2.2.2, .int .u16 x10.1, .int .u16 x10.2.1, .int .u16 x10.2.2.1, .int .u16 x10.2.2.2.1, .int .u16 x10.2.2.2.2, .int .u16 0, .int .u16 (num (x3.getD 25 undef)), (x3.getD 26 undef)]) then
 (let x11 := LF_fM_Draw [.int .i64 x9.1, .int .i64 x9.2.1, .int .i64 x9.2.2.1, .int .i64 x9.2.2.2.1, .int .i64 x9.2.2.2.2.1, .int .i64 x9.2.2.2.2.2.1, .int .i64 x9.2.2.2.2.2.2.1, .int .u16 256, .int .i64 x9.2.2.2.2.2.2.2.2.1, .int .i64 x9.2.2.2.2.2.2.2.2.2.1, .bool x9.2.2.2.2.2.2.2.2.2.2.1, .bool x9.2.2.2.2.2.2.2.2.2.2.2, .int .u16 x10.1, .int .u16 x10.2.1, .int .u16 x10.2.2.1, .int .u16 x10.2.2.2.1, .int .u16 x10.2.2.2.2, .int .u16 0, .int .u16 (num (x3.getD 25 undef)), (x3.getD 26 undef)]
 bif ((num (x11.getD 6 undef)) == 20) then
 (bif (pre_law22_same [(PK [.int .u16 (num (x11.getD 7 undef)), (x11.getD 8 undef)]), (PK [.int .u16 (num (x3.getD 27 undef)), (x3.getD 28 undef)])]) then
 (let x12 := F_law22_same (PK [.int .u16 (num (x11.getD 7 undef)), (x11.getD 8 undef)]) (PK [.int .u16 (num (x3.getD 27 undef)), (x3.getD 28 undef)])
 x12)
 else
 ((tru undef)))
 else
 (false))
 else
 ((tru undef)))
 else
 (bif (x4 == 2) then
 (let x13 := F_gen_Op (num (x3.getD 3 undef)) (num (x3.getD 4 undef)) (num (x3.getD 5 undef)) (num (x3.getD 6 undef)) (num (x3.getD 7 undef)) (num (x3.getD 8 undef)) (num (x3.getD 9 undef)) (num (x3.getD 10 undef)) (num (x3.getD 11 undef)) (num (x3.getD 12 undef)) (num (x3.getD 13 undef)) false 3 0 0 3 3 false 255
 let x14 := F_gen_Pixel (num (x3.getD 14 undef)) (num (x3.getD 15 undef)) (num (x3.getD 16 undef)) (num (x3.getD 17 undef)) (num (x3.getD 18 undef)) 255
 bif (pre_fM_Draw [.int .i64 x13.1, .int .i64 x13.2.1, .int .i64 x13.2.2.1, .int .i64 x13.2.2.2.1, .int .i64 1, .int .i64 x13.2.2.2.2.2.1, .int .i64 x13.2.2.2.2.2.2.1, .int .u16 x13.2.2.2.2.2.2.2.1, .int .i64 x13.2.2.2.2.2.2.2.2.1, .int .i64 x13.2.2.2.2.2.2.2.2.2.1, .bool x13.2.2.2.2.2.2.2.2.2.2.1, .bool x13.2.2.2.2.2.2.2.2.2.2.2, .int .u16 x14.1, .int .u16 x14.2.1, .int .u16 x14.2.2.1, .int .u16 x14.2.2.2.1, .int .u16 x14.2.2.2.2, .int .u16 256, .int .u16 (num (x3.getD 25 undef)), (x3.getD 26 undef)]) then
 (let x15 := LF_fM_Draw [.int .i64 x13.1, .int .i64 x13.2.1, .int .i64 x13.2.2.1, .int .i64 x13.2.2.2.1, .int .i64 1, .int .i64 x13.2.2.2.2.2.1, .int .i64 x13.2.2.2.2.2.2.1, .int .u16 x13.2.2.2.2.2.2.2.1, .int .i64 x13.2.2.2.2.2.2.2.2.1, .int .i64 x13.2.2.2.2.2.2.2.2.2.1, .bool x13.2.2.2.2.2.2.2.2.2.2.1, .bool x13.2.2.2.2.2.2.2.2.2.2.2, .int .u16 x14.1, .int .u16 x14.2.1, .int .u16 x14.2.2.1, .int .u16 x14.2.2.2.1, .int .u16 x14.2.2.2.2, .int .u16 256, .int .u16 (num (x3.getD 25 undef)), (x3.getD 26 undef)]
 bif ((num (x15.getD 6 undef)) == 20) then
 (bif (pre_law22_same [(PK [.int .u16 (num (x15.getD 7 undef)), (x15.getD 8 undef)]), (PK [.int .u16 (num (x3.getD 27 undef)), (x3.getD 28 undef)])]) then
 (let x16 := F_law22_same (PK [.int .u16 (num (x15.getD 7 undef)), (x15.getD 8 undef)]) (PK [.int .u16 (num (x3.getD 27 undef)), (x3.getD 28 undef)])
 x16)
 else
 ((tru undef)))
 else
 (false))
 else
 ((tru undef)))
 else
 (bif (x4 == 3) then
 (let x17 := F_gen_Op (num (x3.getD 3 undef)) (num (x3.getD 4 undef)) (num (x3.getD 5 undef)) (num (x3.getD 6 undef)) (num (x3.getD 7 undef)) (num (x3.getD 8 undef)) (num (x3.getD 9 undef)) (num (x3.getD 10 undef)) (num (x3.getD 11 undef)) (num (x3.getD 12 undef)) (num (x3.getD 13 undef)) false 3 0 0 3 3 false 255
 let x18 := F_gen_Pixel (num (x3.getD 14 undef)) (num (x3.getD 15 undef)) (num (x3.getD 16 undef)) (num (x3.getD 17 undef)) (num (x3.getD 18 undef)) 255
 bif (pre_fM_Draw [.int .i64 x17.1, .int .i64 x17.2.1, .int .i64 x17.2.2.1, .int .i64 x17.2.2.2.1, .int .i64 x17.2.2.2.2.1, .int .i64 x17.2.2.2.2.2.1, .int .i64 x17.2.2.2.2.2.2.1, .int .u16 x17.2.2.2.2.2.2.2.1, .int .i64 x17.2.2.2.2.2.2.2.2.1, .int .i64 x17.2.2.2.2.2.2.2.2.2.1, .bool x17.2.2.2.2.2.2.2.2.2.2.1, .bool x17.2.2.2.2.2.2.2.2.2.2.2, .int .u16 x18.1, .int .u16 x18.2.1, .int .u16 x18.2.2.1, .int .u16 x18.2.2.2.1, .int .u16 256, .int .u16 0, .int .u16 (num (x3.getD 25 undef)), (x3.getD 26 undef)]) then
 (let x19 := LF_fM_Draw [.int .i64 x17.1, .int .i64 x17.2.1, .int .i64 x17.2.2.1, .int .i64 x17.2.2.2.1, .int .i64 x17.2.2.2.2.1, .int .i64 x17.2.2.2.2.2.1, .int .i64 x17.2.2.2.2.2.2.1, .int .u16 x17.2.2.2.2.2.2.2.1, .int .i64 x17.2.2.2.2.2.2.2.2.1, .int .i64 x17.2.2.2.2.2.2.2.2.2.1, .bool x17.2.2.2.2.2.2.2.2.2.2.1, .bool x17.2.2.2.2.2.2.2.2.2.2.2, .int .u16 x18.1, .int .u16 x18.2.1, .int .u16 x18.2.2.1, .int .u16 x18.2.2.2.1, .int .u16 256, .int .u16 0, .int .u16 (num (x3.getD 25 undef)), (x3.getD 26 undef)]
 bif ((num (x19.getD 6 undef)) == 20) then
 (bif (pre_law22_same [(PK [.int .u16 (num (x19.getD 7 undef)), (x19.getD 8 undef)]), (PK [.int .u16 (num (x3.getD 27 undef)), (x3.getD 28 undef)])]) then
 (let x20 := F_law22_same (PK [.int .u16 (num (x19.getD 7 undef)), (x19.getD 8 undef)]) (PK [.int .u16 (num (x3.getD 27 undef)), (x3.getD 28 undef)])
 x20)
 else
 ((tru undef)))
 else
 (false))
 else
 ((tru undef)))
 else
 (bif (x4 == 4) then
 (let x21 := F_gen_Op (num (x3.getD 3 undef)) (num (x3.getD 4 undef)) (num (x3.getD 5 undef)) (num (x3.getD 6 undef)) (num (x3.getD 7 undef)) (num (x3.getD 8 undef)) (num (x3.getD 9 undef)) (num (x3.getD 10 undef)) (num (x3.getD 11 undef)) (num (x3.getD 12 undef)) (num (x3.getD 13 undef)) false 3 0 0 3 3 false 255
 bif (pre_fM_Push [.int .i64 x21.1, .int .i64 x21.2.1, .int .i64 x21.2.2.1, .int .i64 x21.2.2.2.1, .int .i64 x21.2.2.2.2.1, .int .i64 x21.2.2.2.2.2.1, .int .i64 x21.2.2.2.2.2.2.1, .int .u16 x21.2.2.2.2.2.2.2.1, .int .i64 x21.2.2.2.2.2.2.2.2.1, .int .i64 x21.2.2.2.2.2.2.2.2.2.1, .bool x21.2.2.2.2.2.2.2.2.2.2.1, .bool x21.2.2.2.2.2.2.2.2.2.2.2, .int .u16 (num (x3.getD 25 undef)), (x3.getD 26 undef)]) then
 (let x22 := LF_fM_Push [.int .i64 x21.1, .int .i64 x21.2.1, .int .i64 x21.2.2.1, .int .i64 x21.2.2.2.1, .int .i64 x21.2.2.2.2.1, .int .i64 x21.2.2.2.2.2.1, .int .i64 x21.2.2.2.2.2.2.1, .int .u16 x21.2.2.2.2.2.2.2.1, .int .i64 x21.2.2.2.2.2.2.2.2.1, .int .i64 x21.2.2.2.2.2.2.2.2.2.1, .bool x21.2.2.2.2.2.2.2.2.2.2.1, .bool x21.2.2.2.2.2.2.2.2.2.2.2, .int .u16 (num (x3.getD 25 undef)), (x3.getD 26 undef)]
 bif ((num (x22.getD 1 undef)) == 20) then
 (bif (pre_law22_same [(PK [.int .u16 (num (x22.getD 2 undef)), (x22.getD 3 undef)]), (PK [.int .u16 (num (x3.getD 27 undef)), (x3.getD 28 undef)])]) then
 (let x23 := F_law22_same (PK [.int .u16 (num (x22.getD 2 undef)), (x22.getD 3 undef)]) (PK [.int .u16 (num (x3.getD 27 undef)), (x3.getD 28 undef)])
 x23)
 else
 ((tru undef)))
 else
 (false))
 else
 ((tru undef)))
 else
 (let x24 := F_gen_Op (num (x3.getD 3 undef)) (num (x3.getD 4 undef)) (num (x3.getD 5 undef)) (num (x3.getD 6 undef)) (num (x3.getD 7 undef)) (num (x3.getD 8 undef)) (num (x3.getD 9 undef)) (num (x3.getD 10 undef)) (num (x3.getD 11 undef)) (num (x3.getD 12 undef)) (num (x3.getD 13 undef)) false 3 0 0 3 3 false 255
 let x25 := F_gen_Pixel (num (x3.getD 14 undef)) (num (x3.getD 15 undef)) (num (x3.getD 16 undef)) (num (x3.getD 17 undef)) (num (x3.getD 18 undef)) 255
 bif (pre_fM_Draw [.int .i64 x24.1, .int .i64 x24.2.1, .int .i64 x24.2.2.1, .int .i64 x24.2.2.2.1, .int .i64 x24.2.2.2.2.1, .int .i64 x24.2.2.2.2.2.1, .int .i64 x24.2.2.2.2.2.2.1, .int .u16 x24.2.2.2.2.2.2.2.1, .int .i64 x24.2.2.2.2.2.2.2.2.1, .int .i64 x24.2.2.2.2.2.2.2.2.2.1, .bool x24.2.2.2.2.2.2.2.2.2.2.1, .bool x24.2.2.2.2.2.2.2.2.2.2.2, .int .u16 x25.1, .int .u16 (IntKind.u16.wrap (x25.2.2.2.1 + 1)), .int .u16 x25.2.2.1, .int .u16 x25.2.2.2.1, .int .u16 x25.2.2.2.2, .int .u16 0, .int .u16 (num (x3.getD 25 undef)), (x3.getD 26 undef)]) then
 (let x26 := LF_fM_Draw [.int .i64 x24.1, .int .i64 x24.2.1, .int .i64 x24.2.2.1, .int .i64 x24.2.2.2.1, .int .i64 x24.2.2.2.2.1, .int .i64 x24.2.2.2.2.2.1, .int .i64 x24.2.2.2.2.2.2.1, .int .u16 x24.2.2.2.2.2.2.2.1, .int .i64 x24.2.2.2.2.2.2.2.2.1, .int .i64 x24.2.2.2.2.2.2.2.2.2.1, .bool x24.2.2.2.2.2.2.2.2.2.2.1, .bool x24.2.2.2.2.2.2.2.2.2.2.2, .int .u16 x25.1, .int .u16 (IntKind.u16.wrap (x25.2.2.2.1 + 1)), .int .u16 x25.2.2.1, .int .u16 x25.2.2.2.1, .int .u16 x25.2.2.2.2, .int .u16 0, .int .u16 (num (x3.getD 25 undef)), (x3.getD 26 undef)]
 bif ((num (x26.getD 6 undef)) == 20) then
 (bif (pre_law22_same [(PK [.int .u16 (num (x26.getD 7 undef)), (x26.getD 8 undef)]), (PK [.int .u16 (num (x3.getD 27 undef)), (x3.getD 28 undef)])]) then
 (let x27 := F_law22_same (PK [.int .u16 (num (x26.getD 7 undef)), (x26.getD 8 undef)]) (PK [.int .u16 (num (x3.getD 27 undef)), (x3.getD 28 undef)])
 x27)
 else
 ((tru undef)))
 else
 (false))
 else
 ((tru undef)))))))))
 else
 ((tru undef)))) :=
 spellV (L := L_law22_FR) (fun l => tru (l.getD 0 undef)) (evFM ⟨[C_law22_same], [LC_fM_Push, LC_fM_Draw, LC_law22_step, LC_law22_FR_6]⟩ Tryz.prog [S_gen_Mod, S_r1_Full, S_gen_Pixel, S_gen_Op, S_law22_awake] 1000 4 (inL A_law22_FR [p0, .int .i64 p1, .int .i64 p2, .int .i64 p3, .int .i64 p4, .int .i64 p5, .int .i64 p6, .int .i64 p7, .int .i64 p8, .int .i64 p9, .int .i64 p10, .int .i64 p11, .int .i64 p12, .int .i64 p13, .int .i64 p14, .int .i64 p15, .int .i64 p16, .int .i64 p17, .int .i64 p18, .int .i64 p19, .int .u16 p20, .int .u16 p21, .int .u16 p22, .int .u16 p23, .int .u16 p24]) R_law22_FR) (L_law22_FR_is _) (by kernel_rfl)
theorem drawY_kind {q0 q4 o k r m c0 c1 c2 a f s : Int} {L : Value} (h : q0 ≠ 1) : drawY q0 q4 o k r m c0 c1 c2 a f s L = [.int .i64 0, .int .u16 0, .int .u16 0, .int .u16 0, .int .u16 0, .int .u16 0, .int .i64 20, .int .u16 m, L] := if_pos h
theorem drawY_bad {q0 q4 o k r m c0 c1 c2 a f s : Int} {L : Value} (p : P16 c0 c1 c2 a f) (hm : m = 255 ∨ m = 65535) (hs : Is16 s) (hr : Is16 r) (h : ¬ (VP c0 c1 c2 a f m ∧ (if q4 = 0 then m else s) ≤ m ∧ r ≤ m)) : drawY q0 q4 o k r m c0 c1 c2 a f s L = [.int .i64 0, .int .u16 0, .int .u16 0, .int .u16 0, .int .u16 0, .int .u16 0, .int .i64 20, .int .u16 m, L] := by
 have hk : Is16 (if q4 = 0 then m else s) := by split; exact m16 hm; exact hs
 unfold drawY
 by_cases h0 : q0 = 1
 ·rw [if_neg (show ¬ q0 ≠ 1 from fun e => e h0)]
  rcases both_v p hm hk hr with ⟨x0, x1, x2, x3, x4, e, v, n1, n2⟩ | ⟨e, _⟩
  ·exfalso
   rw [bothR p hk hr, if_neg (fun q => h q.2)] at e
   simp at e
  ·simp only [e, Bool.not_false, cond_true]
 ·rw [if_pos h0]
set_option maxHeartbeats 4000000 in
theorem frameRejects {p0 : Value} (hk : inKind (.l RAW) p0) (p1 p2 p3 p4 p5 p6 p7 p8 p9 p10 p11 p12 p13 p14 p15 p16 p17 p18 p19 p20 p21 p22 p23 p24 : Int) : F_law22_FR p0 p1 p2 p3 p4 p5 p6 p7 p8 p9 p10 p11 p12 p13 p14 p15 p16 p17 p18 p19 p20 p21 p22 p23 p24 = true := by
 obtain ⟨L, hx, g⟩ := rej_ends hk p1 p2 p3 p4 p5 p6 p7 p8 p9 p10 p11 p12 p13 p14 p15 p16 p17 p18 p19 p20 p21 p22 p23 p24 _ 0 _ (Nat.le_refl _) (Int.le_refl 0) base_good
 have hp := rej_start p0 p1 p2 p3 p4 p5 p6 p7 p8 p9 p10 p11 p12 p13 p14 p15 p16 p17 p18 p19 p20 p21 p22 p23 p24
 have e0 : F_r1_Full 255 = true := by rw [full_dec]; rfl
 have ix : IXT [.int .i64 1, .int .i64 p1, .int .i64 p2, .int .i64 p3, .int .i64 p4, .int .i64 p5, .int .i64 p6, .int .i64 p7, .int .i64 p8, .int .i64 p9, .int .i64 p10, .int .i64 p11, .int .i64 p12, .int .i64 p13, .int .i64 p14, .int .i64 p15, .int .i64 p16, .int .i64 p17, .int .i64 p18, .int .i64 p19, .int .u16 p20, .int .u16 p21, .int .u16 p22, .int .u16 p23, .int .u16 p24, .int .u16 255, L, .int .u16 255, L] 0 = false := rfl
 have k1 : ∀ x0 x1 x2 x3 x4 x5 x6 x7 x8 x9 x10 x11 x12 x13 x14 x15 x16 x17 x18, pre_fM_Draw [x0, x1, x2, x3, x4, x5, x6, x7, x8, x9, x10, x11, x12, x13, x14, x15, x16, x17, x18, L] = true := fun _ _ _ _ _ _ _ _ _ _ _ _ _ _ _ _ _ _ _ => g.ok
 have k2 : ∀ x0 x1 x2 x3 x4 x5 x6 x7 x8 x9 x10 x11 x12, pre_fM_Push [x0, x1, x2, x3, x4, x5, x6, x7, x8, x9, x10, x11, x12, L] = true := fun _ _ _ _ _ _ _ _ _ _ _ _ _ => g.ok
 have hm : (255 : Int) = 255 ∨ (255 : Int) = 65535 := .inl rfl
 have m1 : Is16 255 := ⟨by decide, by decide⟩
 have z : Is16 0 := ⟨by decide, by decide⟩
 have t : Is16 256 := ⟨by decide, by decide⟩
 rw [F_law22_FR_eq]
 simp only [e0, awake22, Bool.not_true, cond_false, hp, cond_true, hx, ix, List.getD_cons_succ, List.getD_cons_zero, num_int, k1, k2]
 have ho := gOp p3 p4 p5 p6 p7 p8 p9 p10 p11 p12 p13 false 3 0 0 3 3 false m1
 have px := gPixelV p14 p15 p16 p17 p18 (m := 255) (by decide) (by decide)
 generalize F_gen_Op p3 p4 p5 p6 p7 p8 p9 p10 p11 p12 p13 false 3 0 0 3 3 false 255 = x at ho ⊢
 generalize F_gen_Pixel p14 p15 p16 p17 p18 255 = y at px ⊢
 obtain ⟨x0, x1, x2, x3, x4, x5, x6, x7, x8, x9, x10, x11⟩ := x
 obtain ⟨y0, y1, y2, y3, y4⟩ := y
 obtain ⟨hk0, hr0, _⟩ := ho
 have hr : Is16 x7 := ⟨hr0.1, Int.le_trans hr0.2 (by decide)⟩
 have hk0 : x0 = 1 := hk0
 have p16 : P16 y0 y1 y2 y3 y4 := px.p16 (by decide)
 have pa : 0 ≤ y3 ∧ y3 ≤ 255 := ⟨p16.a.1, Int.le_trans px.af px.fm⟩
 have w1 : IntKind.u16.wrap (y3 + 1) = y3 + 1 := u16_in (by omega) (by omega)
 dsimp only
 refine bif_ok (fun _ => ?_) (fun _ => bif_ok (fun _ => ?_) (fun _ => bif_ok (fun _ => ?_) (fun _ => bif_ok (fun _ => ?_) (fun _ => bif_ok (fun _ => ?_) (fun _ => ?_)))))
 ·rw [drawF g hm p16 z hr, drawY_kind (by decide)]
  simp only [List.getD_cons_succ, List.getD_cons_zero, num_int, beq_self_eq_true, cond_true, pre_same g, same_self g hm]
 ·rw [drawF g hm p16 z t, drawY_bad p16 hm z t (fun h => absurd h.2.2 (by decide))]
  simp only [List.getD_cons_succ, List.getD_cons_zero, num_int, beq_self_eq_true, cond_true, pre_same g, same_self g hm]
 ·rw [drawF g hm p16 t hr, drawY_bad p16 hm t hr (fun h => absurd h.2.1 (by decide))]
  simp only [List.getD_cons_succ, List.getD_cons_zero, num_int, beq_self_eq_true, cond_true, pre_same g, same_self g hm]
 ·have pf : P16 y0 y1 y2 y3 256 := ⟨p16.c0, p16.c1, p16.c2, p16.a, t⟩
  rw [drawF g hm pf z hr, drawY_bad pf hm z hr (fun h => absurd h.1.2.2.2.2 (by decide))]
  simp only [List.getD_cons_succ, List.getD_cons_zero, num_int, beq_self_eq_true, cond_true, pre_same g, same_self g hm]
 ·rw [pushF g]
  unfold pushY
  rw [if_pos (show x0 ≠ 2 by omega)]
  simp only [List.getD_cons_succ, List.getD_cons_zero, num_int, beq_self_eq_true, cond_true, pre_same g, same_self g hm]
 ·rw [w1]
  have pf : P16 y0 (y3 + 1) y2 y3 y4 := ⟨p16.c0, ⟨by omega, by omega⟩, p16.c2, p16.a, p16.f⟩
  rw [drawF g hm pf z hr, drawY_bad pf hm z hr (fun h => absurd h.1.2.1 (by omega))]
  simp only [List.getD_cons_succ, List.getD_cons_zero, num_int, beq_self_eq_true, cond_true, pre_same g, same_self g hm]
end Go.Proofs.YtdioaiepkhepaaaGreatDoor
