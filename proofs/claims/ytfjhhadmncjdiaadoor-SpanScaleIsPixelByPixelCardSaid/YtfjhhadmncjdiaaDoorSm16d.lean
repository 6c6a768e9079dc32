/- Chapter 16: four statements of rows. Printed by a program (gen/Gen2.lean) but for the loops' proofs; what each function does is told by the evaluator, and the kernel checks it. No condition. -/
import Derived.Test.YtfjhhadmncjdiaaDoorRwM
import Derived.KernelRfl
import Derived.Shelf.Spec.TrailingZeros
import Derived.Laws.Bits64b
namespace Go.Proofs.YtfjhhadmncjdiaaDoor
set_option maxRecDepth 100000
open Go.RowKit

/-! compositor/compositorlaw16.SpanOfNothing -/
def A_law16_SpanOfNothing : List PS := [.c (.i .i64), .c (.i .i64), .c (.i .u16), .c (.i .u16), .c (.b)]
def R_law16_SpanOfNothing : RS := .one (.c (.b))
noncomputable def L_law16_SpanOfNothing : List Value → List Value := Classical.choose (veil fun vs => (evFM ⟨[C_span_Composite, C_span_Scale, C_span_Result, C_span_Step], []⟩ Tryd.prog [S_law16_awake] 1000 7 (inL A_law16_SpanOfNothing vs) R_law16_SpanOfNothing).outL)
theorem L_law16_SpanOfNothing_is (vs : List Value) : L_law16_SpanOfNothing vs = (evFM ⟨[C_span_Composite, C_span_Scale, C_span_Result, C_span_Step], []⟩ Tryd.prog [S_law16_awake] 1000 7 (inL A_law16_SpanOfNothing vs) R_law16_SpanOfNothing).outL := Classical.choose_spec (veil fun vs => (evFM ⟨[C_span_Composite, C_span_Scale, C_span_Result, C_span_Step], []⟩ Tryd.prog [S_law16_awake] 1000 7 (inL A_law16_SpanOfNothing vs) R_law16_SpanOfNothing).outL) vs
noncomputable def S_law16_SpanOfNothing : Sum := ⟨7, L_law16_SpanOfNothing, A_law16_SpanOfNothing, R_law16_SpanOfNothing⟩
theorem env_law16_SpanOfNothing : EnvOK Tryd.prog InvN ⟨[C_span_Composite, C_span_Scale, C_span_Result, C_span_Step], []⟩ ∧ AllOK Tryd.prog InvN [S_law16_awake] := ⟨⟨(allC_cons ok_span_Composite (allC_cons ok_span_Scale (allC_cons ok_span_Result (allC_cons ok_span_Step allC_nil)))), allL_nil⟩, (allOK_cons ok_law16_awake allOK_nil)⟩
theorem okG_law16_SpanOfNothing (vs : List Value) : (evFM ⟨[C_span_Composite, C_span_Scale, C_span_Result, C_span_Step], []⟩ Tryd.prog [S_law16_awake] 1000 7 (inL A_law16_SpanOfNothing vs) R_law16_SpanOfNothing).goodX R_law16_SpanOfNothing = true := by kernel_rfl
theorem okB_law16_SpanOfNothing (p0 : Int) (p1 : Int) (p2 : Int) (p3 : Int) (p4 : Bool) : (evFM ⟨[C_span_Composite, C_span_Scale, C_span_Result, C_span_Step], []⟩ Tryd.prog [S_law16_awake] 1000 7 (inL A_law16_SpanOfNothing [.int .i64 p0, .int .i64 p1, .int .u16 p2, .int .u16 p3, .bool p4]) R_law16_SpanOfNothing).ok =
    bif (pre_span_Composite [.int .i64 p0, .int .i64 p1, .int .u16 p2, NILV, NILV]) then
      (bif (pre_span_Scale [NILV, NILV, .int .u16 p3, .int .u16 p2]) then
        (bif (pre_span_Step [.bool p4, .int .i64 p0, .int .i64 p1, .int .u16 p2, NILV, NILV, NILV]) then
          (bif (pre_span_Result [NILV, NILV, .int .u16 p2]) then
            (bif (MKB 12 1 1) then
              (bif (pre_span_Result [(RP [.int .u16 0, .int .u16 0, .int .u16 0, .int .u16 0, .int .u16 0, .int .u16 0] 1), NILV, .int .u16 p2]) then
                (bif (MKB 10 1 1) then
                  (bif (pre_span_Step [.bool p4, .int .i64 p0, .int .i64 p1, .int .u16 p2, NILV, NILV, (RP [.int .u16 0, .int .u16 0, .int .u16 0, .int .u16 0, .int .u16 0] 1)]) then
                    (true)
                  else
                    (false))
                else
                  (false))
              else
                (false))
            else
              (false))
          else
            (false))
        else
          (false))
      else
        (false))
    else
      (false) := (okR_eq _).trans (by kernel_rfl)
theorem okA_law16_SpanOfNothing (h : ∀ p0 p1 p2 p3 p4 , IntKind.i64.min ≤ p0 → p0 ≤ IntKind.i64.max → IntKind.i64.min ≤ p1 → p1 ≤ IntKind.i64.max → IntKind.u16.min ≤ p2 → p2 ≤ IntKind.u16.max → IntKind.u16.min ≤ p3 → p3 ≤ IntKind.u16.max → (evFM ⟨[C_span_Composite, C_span_Scale, C_span_Result, C_span_Step], []⟩ Tryd.prog [S_law16_awake] 1000 7 (inL A_law16_SpanOfNothing [.int .i64 p0, .int .i64 p1, .int .u16 p2, .int .u16 p3, .bool p4]) R_law16_SpanOfNothing).ok = true) : SumOK Tryd.prog InvN S_law16_SpanOfNothing := sumOK_partL invN_stays env_law16_SpanOfNothing.1 env_law16_SpanOfNothing.2 1000 7 A_law16_SpanOfNothing R_law16_SpanOfNothing L_law16_SpanOfNothing_is okG_law16_SpanOfNothing (fun vs hk => by
  obtain ⟨_, _, rfl, ⟨p0, rfl, p0lo, p0hi⟩, _, _, rfl, ⟨p1, rfl, p1lo, p1hi⟩, _, _, rfl, ⟨p2, rfl, p2lo, p2hi⟩, _, _, rfl, ⟨p3, rfl, p3lo, p3hi⟩, _, _, rfl, ⟨p4, rfl⟩, rfl⟩ := hk
  exact h p0 p1 p2 p3 p4 p0lo p0hi p1lo p1hi p2lo p2hi p3lo p3hi)
theorem ok_law16_SpanOfNothing : SumOK Tryd.prog InvN S_law16_SpanOfNothing := okA_law16_SpanOfNothing (by
  intro p0 p1 p2 p3 p4
  intros
  rw [okB_law16_SpanOfNothing]
  rfl)
noncomputable def F_law16_SpanOfNothing (p0 : Int) (p1 : Int) (p2 : Int) (p3 : Int) (p4 : Bool) : Bool := tru ((L_law16_SpanOfNothing [.int .i64 p0, .int .i64 p1, .int .u16 p2, .int .u16 p3, .bool p4]).getD 0 undef)
theorem F_law16_SpanOfNothing_eq (p0 : Int) (p1 : Int) (p2 : Int) (p3 : Int) (p4 : Bool) : F_law16_SpanOfNothing p0 p1 p2 p3 p4 =
    bif (pre_span_Composite [.int .i64 p0, .int .i64 p1, .int .u16 p2, NILV, NILV]) then
      (bif (pre_span_Scale [NILV, NILV, .int .u16 p3, .int .u16 p2]) then
        (bif (pre_span_Step [.bool p4, .int .i64 p0, .int .i64 p1, .int .u16 p2, NILV, NILV, NILV]) then
          (bif (pre_span_Result [NILV, NILV, .int .u16 p2]) then
            (bif (MKB 12 1 1) then
              (bif (pre_span_Result [(RP [.int .u16 0, .int .u16 0, .int .u16 0, .int .u16 0, .int .u16 0, .int .u16 0] 1), NILV, .int .u16 p2]) then
                (bif (MKB 10 1 1) then
                  (bif (pre_span_Step [.bool p4, .int .i64 p0, .int .i64 p1, .int .u16 p2, NILV, NILV, (RP [.int .u16 0, .int .u16 0, .int .u16 0, .int .u16 0, .int .u16 0] 1)]) then
                    (let x0 := F_law16_awake
                    bif x0 then
                      (let x1 := F_span_Composite p0 p1 p2 NILV NILV
                      bif x1.2 then
                        (let x2 := F_span_Scale NILV NILV p3 p2
                        bif x2.2 then
                          (let x3 := F_span_Step p4 p0 p1 p2 NILV NILV NILV
                          bif x3.2 then
                            (let x4 := F_span_Result NILV NILV p2
                            bif x4.2 then
                              (let x5 := F_span_Result (RP [.int .u16 0, .int .u16 0, .int .u16 0, .int .u16 0, .int .u16 0, .int .u16 0] 1) NILV p2
                              bif (!x5.2) then
                                (let x6 := F_span_Step p4 p0 p1 p2 NILV NILV (RP [.int .u16 0, .int .u16 0, .int .u16 0, .int .u16 0, .int .u16 0] 1)
                                bif (!x6.2) then
                                  (((IntKind.i64.wrap ((IntKind.i64.wrap ((IntKind.i64.wrap ((LN x1.1) + (LN x2.1))) + (LN x3.1))) + (LN x4.1))) == 0))
                                else
                                  (false))
                              else
                                (false))
                            else
                              (false))
                          else
                            (false))
                        else
                          (false))
                      else
                        (false))
                    else
                      (false))
                  else
                    ((tru undef)))
                else
                  ((tru undef)))
              else
                ((tru undef)))
            else
              ((tru undef)))
          else
            ((tru undef)))
        else
          ((tru undef)))
      else
        ((tru undef)))
    else
      ((tru undef)) :=
  spellV (L := L_law16_SpanOfNothing) (fun l => tru ((l).getD 0 undef)) (evFM ⟨[C_span_Composite, C_span_Scale, C_span_Result, C_span_Step], []⟩ Tryd.prog [S_law16_awake] 1000 7 (inL A_law16_SpanOfNothing [.int .i64 p0, .int .i64 p1, .int .u16 p2, .int .u16 p3, .bool p4]) R_law16_SpanOfNothing) (L_law16_SpanOfNothing_is _) (by kernel_rfl)

/-! compositor/compositorlaw16.SpanClassifyAgrees -/
def A_law16_SpanClassifyAgrees : List PS := [.agg [.i .i64, .l [.i .i64, .i .i64, .i .i64, .i .i64, .i .i64]], .c (.i .i64), .c (.i .i64), .c (.l [.i .u16, .i .u16, .i .u16, .i .u16, .i .u16]), .c (.i .u16)]
def R_law16_SpanClassifyAgrees : RS := .one (.c (.b))
noncomputable def L_law16_SpanClassifyAgrees : List Value → List Value := Classical.choose (veil fun vs => (evFM ⟨[C_gen_Pixels], []⟩ Tryd.prog [S_gen_Mod, S_gen_Max, S_ref13_Classify, S_span_Classify, S_law16_awake] 1000 3 (inL A_law16_SpanClassifyAgrees vs) R_law16_SpanClassifyAgrees).outL)
theorem L_law16_SpanClassifyAgrees_is (vs : List Value) : L_law16_SpanClassifyAgrees vs = (evFM ⟨[C_gen_Pixels], []⟩ Tryd.prog [S_gen_Mod, S_gen_Max, S_ref13_Classify, S_span_Classify, S_law16_awake] 1000 3 (inL A_law16_SpanClassifyAgrees vs) R_law16_SpanClassifyAgrees).outL := Classical.choose_spec (veil fun vs => (evFM ⟨[C_gen_Pixels], []⟩ Tryd.prog [S_gen_Mod, S_gen_Max, S_ref13_Classify, S_span_Classify, S_law16_awake] 1000 3 (inL A_law16_SpanClassifyAgrees vs) R_law16_SpanClassifyAgrees).outL) vs
noncomputable def S_law16_SpanClassifyAgrees : Sum := ⟨3, L_law16_SpanClassifyAgrees, A_law16_SpanClassifyAgrees, R_law16_SpanClassifyAgrees⟩
theorem env_law16_SpanClassifyAgrees : EnvOK Tryd.prog InvN ⟨[C_gen_Pixels], []⟩ ∧ AllOK Tryd.prog InvN [S_gen_Mod, S_gen_Max, S_ref13_Classify, S_span_Classify, S_law16_awake] := ⟨⟨(allC_cons ok_gen_Pixels allC_nil), allL_nil⟩, (allOK_cons ok_gen_Mod.any (allOK_cons ok_gen_Max.any (allOK_cons ok_ref13_Classify (allOK_cons ok_span_Classify (allOK_cons ok_law16_awake allOK_nil)))))⟩
theorem okG_law16_SpanClassifyAgrees (vs : List Value) : (evFM ⟨[C_gen_Pixels], []⟩ Tryd.prog [S_gen_Mod, S_gen_Max, S_ref13_Classify, S_span_Classify, S_law16_awake] 1000 3 (inL A_law16_SpanClassifyAgrees vs) R_law16_SpanClassifyAgrees).goodX R_law16_SpanClassifyAgrees = true := by kernel_rfl
theorem okB_law16_SpanClassifyAgrees (p0 : Int) (p1 : Value) (p2 : Int) (p3 : Int) (p4 : Value) (p5 : Int) : (evFM ⟨[C_gen_Pixels], []⟩ Tryd.prog [S_gen_Mod, S_gen_Max, S_ref13_Classify, S_span_Classify, S_law16_awake] 1000 3 (inL A_law16_SpanClassifyAgrees [.int .i64 p0, p1, .int .i64 p2, .int .i64 p3, p4, .int .u16 p5]) R_law16_SpanClassifyAgrees).ok =
    let x0 := F_gen_Mod p2 12
    let x1 := F_gen_Max p3
    bif (pre_gen_Pixels [.int .i64 p0, p1, .int .i64 x0, .int .u16 x1]) then
      (true)
    else
      (false) := (okR_eq _).trans (by kernel_rfl)
theorem okA_law16_SpanClassifyAgrees (h : ∀ p0 p1 p2 p3 p4 p5 , IntKind.i64.min ≤ p0 → p0 ≤ IntKind.i64.max → inKind (.l [.i .i64, .i .i64, .i .i64, .i .i64, .i .i64]) p1 → IntKind.i64.min ≤ p2 → p2 ≤ IntKind.i64.max → IntKind.i64.min ≤ p3 → p3 ≤ IntKind.i64.max → inKind (.l [.i .u16, .i .u16, .i .u16, .i .u16, .i .u16]) p4 → IntKind.u16.min ≤ p5 → p5 ≤ IntKind.u16.max → (evFM ⟨[C_gen_Pixels], []⟩ Tryd.prog [S_gen_Mod, S_gen_Max, S_ref13_Classify, S_span_Classify, S_law16_awake] 1000 3 (inL A_law16_SpanClassifyAgrees [.int .i64 p0, p1, .int .i64 p2, .int .i64 p3, p4, .int .u16 p5]) R_law16_SpanClassifyAgrees).ok = true) : SumOK Tryd.prog InvN S_law16_SpanClassifyAgrees := sumOK_partL invN_stays env_law16_SpanClassifyAgrees.1 env_law16_SpanClassifyAgrees.2 1000 3 A_law16_SpanClassifyAgrees R_law16_SpanClassifyAgrees L_law16_SpanClassifyAgrees_is okG_law16_SpanClassifyAgrees (fun vs hk => by
  obtain ⟨_, _, rfl, ⟨p0, rfl, p0lo, p0hi⟩, p1, _, rfl, p1k, _, _, rfl, ⟨p2, rfl, p2lo, p2hi⟩, _, _, rfl, ⟨p3, rfl, p3lo, p3hi⟩, p4, _, rfl, p4k, _, _, rfl, ⟨p5, rfl, p5lo, p5hi⟩, rfl⟩ := hk
  exact h p0 p1 p2 p3 p4 p5 p0lo p0hi p1k p2lo p2hi p3lo p3hi p4k p5lo p5hi)
theorem ok_law16_SpanClassifyAgrees : SumOK Tryd.prog InvN S_law16_SpanClassifyAgrees := okA_law16_SpanClassifyAgrees (by
  intro p0 p1 p2 p3 p4 p5
  intros
  have hc := mod_bd p2 (n := 12) (by decide) (by decide)
  rw [okB_law16_SpanClassifyAgrees]
  simp only [pre_pixels (show F_gen_Mod p2 12 ≤ 1000 by omega) hc.1, cond_true])
noncomputable def F_law16_SpanClassifyAgrees (p0 : Int) (p1 : Value) (p2 : Int) (p3 : Int) (p4 : Value) (p5 : Int) : Bool := tru ((L_law16_SpanClassifyAgrees [.int .i64 p0, p1, .int .i64 p2, .int .i64 p3, p4, .int .u16 p5]).getD 0 undef)
theorem F_law16_SpanClassifyAgrees_eq (p0 : Int) (p1 : Value) (p2 : Int) (p3 : Int) (p4 : Value) (p5 : Int) : F_law16_SpanClassifyAgrees p0 p1 p2 p3 p4 p5 =
    let x0 := F_gen_Mod p2 12
    let x1 := F_gen_Max p3
    bif (pre_gen_Pixels [.int .i64 p0, p1, .int .i64 x0, .int .u16 x1]) then
      (let x2 := F_law16_awake
      bif x2 then
        (let x3 := F_gen_Pixels p0 p1 x0 x1
        let x4 := F_span_Classify x3 x1
        let x5 := F_ref13_Classify x3 x1
        bif (x4 == x5) then
          (let x6 := F_span_Classify p4 p5
          let x7 := F_ref13_Classify p4 p5
          bif (x6 == x7) then
            (let x8 := F_span_Classify x3 p5
            let x9 := F_ref13_Classify x3 p5
            (x8 == x9))
          else
            (false))
        else
          (false))
      else
        (false))
    else
      ((tru undef)) :=
  spellV (L := L_law16_SpanClassifyAgrees) (fun l => tru ((l).getD 0 undef)) (evFM ⟨[C_gen_Pixels], []⟩ Tryd.prog [S_gen_Mod, S_gen_Max, S_ref13_Classify, S_span_Classify, S_law16_awake] 1000 3 (inL A_law16_SpanClassifyAgrees [.int .i64 p0, p1, .int .i64 p2, .int .i64 p3, p4, .int .u16 p5]) R_law16_SpanClassifyAgrees) (L_law16_SpanClassifyAgrees_is _) (by kernel_rfl)

/-! compositor/compositorlaw16.SpanCompositeIsPixelByPixel -/
def A_law16_SpanCompositeIsPixelByPixel : List PS := [.c (.i .i64), .c (.i .i64), .agg [.i .i64, .l [.i .i64, .i .i64, .i .i64, .i .i64, .i .i64]], .agg [.i .i64, .l [.i .i64, .i .i64, .i .i64, .i .i64, .i .i64]], .c (.i .i64), .c (.i .i64)]
def R_law16_SpanCompositeIsPixelByPixel : RS := .one (.c (.b))
def head_law16_SpanCompositeIsPixelByPixel_7 : Shp := ⟨[.any, .any, .any, .any, .any, .any, .any, .any, .any, .any, .any, .any, .any, .p (.c (.h (.i .u16))), .p (.c (.h (.i .i64))), .p (.c (.h (.i .i64))), .p (.c (.h (.i .i64))), .p (.c (.h (.l [.i .u16, .i .u16, .i .u16, .i .u16, .i .u16]))), .p (.c (.h (.l [.i .u16, .i .u16, .i .u16, .i .u16, .i .u16]))), .p (.c (.h (.l [.i .u16, .i .u16, .i .u16, .i .u16, .i .u16]))), .any, .p (.c (.h (.i .i64))), .any, .any, .any, .any, .any, .any, .any, .any, .any, .any, .any, .any, .any, .any, .any, .any, .any, .any, .any, .any, .any, .any, .any, .any, .any, .any, .any, .any, .any, .any, .any, .any, .any, .any, .any, .any, .any, .any, .any, .any, .any, .any, .any, .any, .any, .any, .any, .any, .any, .any, .any, .any, .any, .any, .any, .any, .any, .any, .any, .any, .any, .any, .any, .any, .any, .any, .any, .any, .any, .any, .any, .any, .any, .any, .any, .any, .any, .any, .any, .any, .any, .any, .any, .any, .any, .any, .any, .any, .any, .any, .any, .any, .any], []⟩
def outs_law16_SpanCompositeIsPixelByPixel_7 : List (Xt × Shp × Nat) := [(.ret, ⟨[.any, .any, .any, .any, .any, .any, .any, .any, .any, .any, .any, .any, .p (.c (.h (.b))), .any, .any, .any, .any, .any, .any, .any, .any, .any, .any, .any, .any, .any, .any, .any, .any, .any, .any, .any, .any, .any, .any, .any, .any, .any, .any, .any, .any, .any, .any, .any, .any, .any, .any, .any, .any, .any, .any, .any, .any, .any, .any, .any, .any, .any, .any, .any, .any, .any, .any, .any, .any, .any, .any, .any, .any, .any, .any, .any, .any, .any, .any, .any, .any, .any, .any, .any, .any, .any, .any, .any, .any, .any, .any, .any, .any, .any, .any, .any, .any, .any, .any, .any, .any, .any, .any, .any, .any, .any, .any, .any, .any, .any, .any, .any, .any, .any, .any, .any, .any, .any, .any], []⟩, 0), (.exit 0, ⟨[.any, .any, .any, .any, .any, .any, .any, .any, .any, .any, .any, .any, .any, .any, .any, .any, .any, .any, .any, .any, .any, .any, .any, .any, .any, .any, .any, .any, .any, .any, .any, .any, .any, .any, .any, .any, .any, .any, .any, .any, .any, .any, .any, .any, .any, .any, .any, .any, .any, .any, .any, .any, .any, .any, .any, .any, .any, .any, .any, .any, .any, .any, .any, .any, .any, .any, .any, .any, .any, .any, .any, .any, .any, .any, .any, .any, .any, .any, .any, .any, .any, .any, .any, .any, .any, .any, .any, .any, .any, .any, .any, .any, .any, .any, .any, .any, .any, .any, .any, .any, .any, .any, .any, .any, .any, .any, .any, .any, .any, .any, .any, .any, .any, .any, .any], []⟩, 0)]
noncomputable def OUT_law16_SpanCompositeIsPixelByPixel_7 (p0 : Int) (p1 : Int) (p2 : Int) (p3 : Int) (p4 : Value) (p5 : Value) (p6 : Value) (p7 : Int) : List Value :=
    bif (decide (p7 < p3)) then
      (bif (INB p4 p7) then
        (bif (INB p5 p7) then
          (bif (INB p4 p7) then
            (bif (INB p5 p7) then
              (let x0 := F_pixel_Composite p1 p2 p0 (num (CV (IX p4 p7) 0)) (num (CV (IX p4 p7) 1)) (num (CV (IX p4 p7) 2)) (num (CV (IX p4 p7) 3)) (num (CV (IX p4 p7) 4)) (num (CV (IX p5 p7) 0)) (num (CV (IX p5 p7) 1)) (num (CV (IX p5 p7) 2)) (num (CV (IX p5 p7) 3)) (num (CV (IX p5 p7) 4))
              bif (!x0.2.2.2.2.2) then
                ([.int .i64 0, .bool false])
              else
                (bif (INB p6 p7) then
                  (bif (!((((num (CV (IX p6 p7) 0)) == x0.1) && (((num (CV (IX p6 p7) 1)) == x0.2.1) && ((num (CV (IX p6 p7) 2)) == x0.2.2.1))) && (((num (CV (IX p6 p7) 3)) == x0.2.2.2.1) && ((num (CV (IX p6 p7) 4)) == x0.2.2.2.2.1)))) then
                    ([.int .i64 0, .bool false])
                  else
                    (let x1 := F_ref06_Composite p1 p2 p0 (num (CV (IX p4 p7) 0)) (num (CV (IX p4 p7) 1)) (num (CV (IX p4 p7) 2)) (num (CV (IX p4 p7) 3)) (num (CV (IX p4 p7) 4)) (num (CV (IX p5 p7) 0)) (num (CV (IX p5 p7) 1)) (num (CV (IX p5 p7) 2)) (num (CV (IX p5 p7) 3)) (num (CV (IX p5 p7) 4))
                    bif (!(((x0.1 == x1.1) && ((x0.2.1 == x1.2.1) && (x0.2.2.1 == x1.2.2.1))) && ((x0.2.2.2.1 == x1.2.2.2.1) && (x0.2.2.2.2.1 == x1.2.2.2.2.1)))) then
                      ([.int .i64 0, .bool false])
                    else
                      ([.int .i64 (-1), .int .u16 p0, .int .i64 p1, .int .i64 p2, .int .i64 p3, p4, p5, p6, .int .i64 (IntKind.i64.wrap (p7 + 1))])))
                else
                  ([])))
            else
              ([]))
          else
            ([]))
        else
          ([]))
      else
        ([]))
    else
      ([.int .i64 1])
noncomputable def OL_law16_SpanCompositeIsPixelByPixel_7 (xs : List Value) : List Value := OUT_law16_SpanCompositeIsPixelByPixel_7 (num (xs.getD 0 undef)) (num (xs.getD 1 undef)) (num (xs.getD 2 undef)) (num (xs.getD 3 undef)) (xs.getD 4 undef) (xs.getD 5 undef) (xs.getD 6 undef) (num (xs.getD 7 undef))
noncomputable def LF_law16_SpanCompositeIsPixelByPixel_7 : List Value → List Value := LFof OL_law16_SpanCompositeIsPixelByPixel_7
def pre_law16_SpanCompositeIsPixelByPixel_7 (xs : List Value) : Bool := decide ((num (xs.getD 3 undef)) = LN (xs.getD 4 undef)) && decide (LN (xs.getD 5 undef) = (num (xs.getD 3 undef))) && decide (LN (xs.getD 6 undef) = (num (xs.getD 3 undef))) && decide (0 ≤ (num (xs.getD 7 undef))) && decide ((num (xs.getD 3 undef)) ≤ 1000)
noncomputable def LC_law16_SpanCompositeIsPixelByPixel_7 : LoopC := ⟨4, 7, LF_law16_SpanCompositeIsPixelByPixel_7, pre_law16_SpanCompositeIsPixelByPixel_7, 0, head_law16_SpanCompositeIsPixelByPixel_7, outs_law16_SpanCompositeIsPixelByPixel_7⟩
theorem LF_law16_SpanCompositeIsPixelByPixel_7_go (p0 : Int) (p1 : Int) (p2 : Int) (p3 : Int) (p4 : Value) (p5 : Value) (p6 : Value) (p7 : Int) : LF_law16_SpanCompositeIsPixelByPixel_7 [.int .u16 p0, .int .i64 p1, .int .i64 p2, .int .i64 p3, p4, p5, p6, .int .i64 p7] = goOn LF_law16_SpanCompositeIsPixelByPixel_7 (OUT_law16_SpanCompositeIsPixelByPixel_7 p0 p1 p2 p3 p4 p5 p6 p7) := LFof_eq _ _
theorem okBL_law16_SpanCompositeIsPixelByPixel_7 (p0 : Int) (p1 : Int) (p2 : Int) (p3 : Int) (p4 : Value) (p5 : Value) (p6 : Value) (p7 : Int) : (evL ⟨[C_span_Composite, C_gen_Pixels], []⟩ Tryd.prog [S_gen_Mod, S_gen_Max, S_pixel_Composite, S_ref06_Composite, S_law16_awake] 1000 LC_law16_SpanCompositeIsPixelByPixel_7 [.int .u16 p0, .int .i64 p1, .int .i64 p2, .int .i64 p3, p4, p5, p6, .int .i64 p7]).ok =
    bif (decide (p7 < p3)) then
      (bif (INB p4 p7) then
        (bif (INB p5 p7) then
          (bif (INB p4 p7) then
            (bif (INB p5 p7) then
              (let x0 := F_pixel_Composite p1 p2 p0 (num (CV (IX p4 p7) 0)) (num (CV (IX p4 p7) 1)) (num (CV (IX p4 p7) 2)) (num (CV (IX p4 p7) 3)) (num (CV (IX p4 p7) 4)) (num (CV (IX p5 p7) 0)) (num (CV (IX p5 p7) 1)) (num (CV (IX p5 p7) 2)) (num (CV (IX p5 p7) 3)) (num (CV (IX p5 p7) 4))
              bif (!x0.2.2.2.2.2) then
                (true)
              else
                (bif (INB p6 p7) then
                  (true)
                else
                  (false)))
            else
              (false))
          else
            (false))
        else
          (false))
      else
        (false))
    else
      (true) := (okR_eq _).trans (by kernel_rfl)
theorem step_law16_SpanCompositeIsPixelByPixel_7 (p0 : Int) (p1 : Int) (p2 : Int) (p3 : Int) (p4 : Value) (p5 : Value) (p6 : Value) (p7 : Int) : (evL ⟨[C_span_Composite, C_gen_Pixels], []⟩ Tryd.prog [S_gen_Mod, S_gen_Max, S_pixel_Composite, S_ref06_Composite, S_law16_awake] 1000 LC_law16_SpanCompositeIsPixelByPixel_7 [.int .u16 p0, .int .i64 p1, .int .i64 p2, .int .i64 p3, p4, p5, p6, .int .i64 p7]).outL = OUT_law16_SpanCompositeIsPixelByPixel_7 p0 p1 p2 p3 p4 p5 p6 p7 := (fold_eq (fun l => l) _).trans (by kernel_rfl)
theorem one_law16_SpanCompositeIsPixelByPixel_7 : (loopsBy Tryd.prog 4 7).length = 1 := by kernel_rfl
theorem env_law16_SpanCompositeIsPixelByPixel_7 : EnvOK Tryd.prog InvN ⟨[C_span_Composite, C_gen_Pixels], []⟩ ∧ AllOK Tryd.prog InvN [S_gen_Mod, S_gen_Max, S_pixel_Composite, S_ref06_Composite, S_law16_awake] := ⟨⟨(allC_cons ok_span_Composite (allC_cons ok_gen_Pixels allC_nil)), allL_nil⟩, (allOK_cons ok_gen_Mod.any (allOK_cons ok_gen_Max.any (allOK_cons ok_pixel_Composite (allOK_cons ok_ref06_Composite (allOK_cons ok_law16_awake allOK_nil)))))⟩
theorem lp_law16_SpanCompositeIsPixelByPixel_7 (meas : List Value → Nat) (h : ∀ p0 p1 p2 p3 p4 p5 p6 p7, IntKind.u16.min ≤ p0 → p0 ≤ IntKind.u16.max → IntKind.i64.min ≤ p1 → p1 ≤ IntKind.i64.max → IntKind.i64.min ≤ p2 → p2 ≤ IntKind.i64.max → IntKind.i64.min ≤ p3 → p3 ≤ IntKind.i64.max → inKind (.l [.i .u16, .i .u16, .i .u16, .i .u16, .i .u16]) p4 → inKind (.l [.i .u16, .i .u16, .i .u16, .i .u16, .i .u16]) p5 → inKind (.l [.i .u16, .i .u16, .i .u16, .i .u16, .i .u16]) p6 → IntKind.i64.min ≤ p7 → p7 ≤ IntKind.i64.max → pre_law16_SpanCompositeIsPixelByPixel_7 [.int .u16 p0, .int .i64 p1, .int .i64 p2, .int .i64 p3, p4, p5, p6, .int .i64 p7] = true → (evL ⟨[C_span_Composite, C_gen_Pixels], []⟩ Tryd.prog [S_gen_Mod, S_gen_Max, S_pixel_Composite, S_ref06_Composite, S_law16_awake] 1000 LC_law16_SpanCompositeIsPixelByPixel_7 [.int .u16 p0, .int .i64 p1, .int .i64 p2, .int .i64 p3, p4, p5, p6, .int .i64 p7]).ok = true ∧ okO pre_law16_SpanCompositeIsPixelByPixel_7 meas (meas [.int .u16 p0, .int .i64 p1, .int .i64 p2, .int .i64 p3, p4, p5, p6, .int .i64 p7]) (OUT_law16_SpanCompositeIsPixelByPixel_7 p0 p1 p2 p3 p4 p5 p6 p7)) : LoopTrue Tryd.prog InvN LC_law16_SpanCompositeIsPixelByPixel_7 := loop_lf env_law16_SpanCompositeIsPixelByPixel_7 1000 LC_law16_SpanCompositeIsPixelByPixel_7 one_law16_SpanCompositeIsPixelByPixel_7 meas OL_law16_SpanCompositeIsPixelByPixel_7 rfl (fun xs hk hp => by
  have hk : KindsL [.i .u16, .i .i64, .i .i64, .i .i64, .l [.i .u16, .i .u16, .i .u16, .i .u16, .i .u16], .l [.i .u16, .i .u16, .i .u16, .i .u16, .i .u16], .l [.i .u16, .i .u16, .i .u16, .i .u16, .i .u16], .i .i64] xs := hk
  obtain ⟨_, _, rfl, ⟨p0, rfl, p0lo, p0hi⟩, _, _, rfl, ⟨p1, rfl, p1lo, p1hi⟩, _, _, rfl, ⟨p2, rfl, p2lo, p2hi⟩, _, _, rfl, ⟨p3, rfl, p3lo, p3hi⟩, p4, _, rfl, p4k, p5, _, rfl, p5k, p6, _, rfl, p6k, _, _, rfl, ⟨p7, rfl, p7lo, p7hi⟩, rfl⟩ := hk
  have h := h p0 p1 p2 p3 p4 p5 p6 p7 p0lo p0hi p1lo p1hi p2lo p2hi p3lo p3hi p4k p5k p6k p7lo p7hi hp
  exact ⟨h.1, step_law16_SpanCompositeIsPixelByPixel_7 p0 p1 p2 p3 p4 p5 p6 p7, h.2⟩)
theorem ok_law16_SpanCompositeIsPixelByPixel_7 : LoopTrue Tryd.prog InvN LC_law16_SpanCompositeIsPixelByPixel_7 := lp_law16_SpanCompositeIsPixelByPixel_7 (fun xs => ((num (xs.getD 3 undef)) - (num (xs.getD 7 undef))).toNat) (by
  intro p0 p1 p2 p3 p4 p5 p6 p7 _ _ _ _ _ _ _ _ p4k p5k p6k _ _ hp
  have hp : (decide (p3 = LN p4) && decide (LN p5 = p3) && decide (LN p6 = p3) && decide (0 ≤ p7) && decide (p3 ≤ 1000)) = true := hp
  simp only [Bool.and_eq_true, decide_eq_true_eq] at hp
  obtain ⟨⟨⟨⟨h1, h2⟩, h3⟩, h4⟩, h5⟩ := hp
  have nx : p7 < p3 → ∀ (_ : Unit), okO pre_law16_SpanCompositeIsPixelByPixel_7 (fun xs => ((num (xs.getD 3 undef)) - (num (xs.getD 7 undef))).toNat) (p3 - p7).toNat [.int .i64 (-1), .int .u16 p0, .int .i64 p1, .int .i64 p2, .int .i64 p3, p4, p5, p6, .int .i64 (IntKind.i64.wrap (p7 + 1))] := fun h _ => okO_next (by
    show (decide (p3 = LN p4) && decide (LN p5 = p3) && decide (LN p6 = p3) && decide (0 ≤ IntKind.i64.wrap (p7 + 1)) && decide (p3 ≤ 1000)) = true
    rw [i64_in (by omega) (by omega)]
    simp only [Bool.and_eq_true, decide_eq_true_eq]
    omega) (by
    show (p3 - IntKind.i64.wrap (p7 + 1)).toNat < (p3 - p7).toNat
    rw [i64_in (by omega) (by omega)]
    omega)
  rw [okBL_law16_SpanCompositeIsPixelByPixel_7]
  refine ⟨bif_ok (fun h => ?_) (fun _ => rfl), ?_⟩
  · have h : p7 < p3 := of_decide_eq_true h
    have g0 : INB p4 p7 = true := INB_of h4 (by omega)
    have g1 : INB p5 p7 = true := INB_of h4 (by omega)
    have g2 : INB p6 p7 = true := INB_of h4 (by omega)
    simp only [g0, g1, g2, cond_true, Bool.cond_self]
    try (repeat' (first | rfl | refine bif_ok (fun _ => ?_) (fun _ => ?_)))
  · unfold OUT_law16_SpanCompositeIsPixelByPixel_7
    refine okO_bif (fun h => ?_) (fun _ => okO_exit 1)
    have h : p7 < p3 := of_decide_eq_true h
    have g0 : INB p4 p7 = true := INB_of h4 (by omega)
    have g1 : INB p5 p7 = true := INB_of h4 (by omega)
    have g2 : INB p6 p7 = true := INB_of h4 (by omega)
    simp only [g0, g1, g2, cond_true]
    repeat' (first | refine okO_bif (fun _ => ?_) (fun _ => ?_) | exact okO_exit 0 | exact nx h ()))
noncomputable def L_law16_SpanCompositeIsPixelByPixel : List Value → List Value := Classical.choose (veil fun vs => (evFM ⟨[C_span_Composite, C_gen_Pixels], [LC_law16_SpanCompositeIsPixelByPixel_7]⟩ Tryd.prog [S_gen_Mod, S_gen_Max, S_pixel_Composite, S_ref06_Composite, S_law16_awake] 1000 4 (inL A_law16_SpanCompositeIsPixelByPixel vs) R_law16_SpanCompositeIsPixelByPixel).outL)
theorem L_law16_SpanCompositeIsPixelByPixel_is (vs : List Value) : L_law16_SpanCompositeIsPixelByPixel vs = (evFM ⟨[C_span_Composite, C_gen_Pixels], [LC_law16_SpanCompositeIsPixelByPixel_7]⟩ Tryd.prog [S_gen_Mod, S_gen_Max, S_pixel_Composite, S_ref06_Composite, S_law16_awake] 1000 4 (inL A_law16_SpanCompositeIsPixelByPixel vs) R_law16_SpanCompositeIsPixelByPixel).outL := Classical.choose_spec (veil fun vs => (evFM ⟨[C_span_Composite, C_gen_Pixels], [LC_law16_SpanCompositeIsPixelByPixel_7]⟩ Tryd.prog [S_gen_Mod, S_gen_Max, S_pixel_Composite, S_ref06_Composite, S_law16_awake] 1000 4 (inL A_law16_SpanCompositeIsPixelByPixel vs) R_law16_SpanCompositeIsPixelByPixel).outL) vs
noncomputable def S_law16_SpanCompositeIsPixelByPixel : Sum := ⟨4, L_law16_SpanCompositeIsPixelByPixel, A_law16_SpanCompositeIsPixelByPixel, R_law16_SpanCompositeIsPixelByPixel⟩
theorem env_law16_SpanCompositeIsPixelByPixel : EnvOK Tryd.prog InvN ⟨[C_span_Composite, C_gen_Pixels], [LC_law16_SpanCompositeIsPixelByPixel_7]⟩ ∧ AllOK Tryd.prog InvN [S_gen_Mod, S_gen_Max, S_pixel_Composite, S_ref06_Composite, S_law16_awake] := ⟨⟨(allC_cons ok_span_Composite (allC_cons ok_gen_Pixels allC_nil)), (allL_cons ok_law16_SpanCompositeIsPixelByPixel_7 allL_nil)⟩, (allOK_cons ok_gen_Mod.any (allOK_cons ok_gen_Max.any (allOK_cons ok_pixel_Composite (allOK_cons ok_ref06_Composite (allOK_cons ok_law16_awake allOK_nil)))))⟩
theorem okG_law16_SpanCompositeIsPixelByPixel (vs : List Value) : (evFM ⟨[C_span_Composite, C_gen_Pixels], [LC_law16_SpanCompositeIsPixelByPixel_7]⟩ Tryd.prog [S_gen_Mod, S_gen_Max, S_pixel_Composite, S_ref06_Composite, S_law16_awake] 1000 4 (inL A_law16_SpanCompositeIsPixelByPixel vs) R_law16_SpanCompositeIsPixelByPixel).goodX R_law16_SpanCompositeIsPixelByPixel = true := by kernel_rfl
theorem okB_law16_SpanCompositeIsPixelByPixel (p0 : Int) (p1 : Int) (p2 : Int) (p3 : Value) (p4 : Int) (p5 : Value) (p6 : Int) (p7 : Int) : (evFM ⟨[C_span_Composite, C_gen_Pixels], [LC_law16_SpanCompositeIsPixelByPixel_7]⟩ Tryd.prog [S_gen_Mod, S_gen_Max, S_pixel_Composite, S_ref06_Composite, S_law16_awake] 1000 4 (inL A_law16_SpanCompositeIsPixelByPixel [.int .i64 p0, .int .i64 p1, .int .i64 p2, p3, .int .i64 p4, p5, .int .i64 p6, .int .i64 p7]) R_law16_SpanCompositeIsPixelByPixel).ok =
    let x0 := F_gen_Mod p6 10
    let x1 := F_gen_Max p7
    bif (pre_gen_Pixels [.int .i64 p2, p3, .int .i64 x0, .int .u16 x1]) then
      (bif (pre_gen_Pixels [.int .i64 p4, p5, .int .i64 x0, .int .u16 x1]) then
        (let x2 := F_gen_Mod p0 12
        let x3 := F_gen_Mod p1 12
        let x4 := F_gen_Pixels p2 p3 x0 x1
        let x5 := F_gen_Pixels p4 p5 x0 x1
        bif (pre_span_Composite [.int .i64 (IntKind.i64.wrap (1 + x2)), .int .i64 (IntKind.i64.wrap (1 + x3)), .int .u16 x1, x4, x5]) then
          (let x6 := F_law16_awake
          bif (!x6) then
            (true)
          else
            (let x7 := F_span_Composite (IntKind.i64.wrap (1 + x2)) (IntKind.i64.wrap (1 + x3)) x1 x4 x5
            bif (!x7.2) then
              (true)
            else
              (bif ((LN x7.1) != x0) then
                (true)
              else
                (bif (pre_law16_SpanCompositeIsPixelByPixel_7 [.int .u16 x1, .int .i64 (IntKind.i64.wrap (1 + x2)), .int .i64 (IntKind.i64.wrap (1 + x3)), .int .i64 x0, x4, x5, x7.1, .int .i64 0]) then
                  (true)
                else
                  (false)))))
        else
          (false))
      else
        (false))
    else
      (false) := (okR_eq _).trans (by kernel_rfl)
theorem okA_law16_SpanCompositeIsPixelByPixel (h : ∀ p0 p1 p2 p3 p4 p5 p6 p7 , IntKind.i64.min ≤ p0 → p0 ≤ IntKind.i64.max → IntKind.i64.min ≤ p1 → p1 ≤ IntKind.i64.max → IntKind.i64.min ≤ p2 → p2 ≤ IntKind.i64.max → inKind (.l [.i .i64, .i .i64, .i .i64, .i .i64, .i .i64]) p3 → IntKind.i64.min ≤ p4 → p4 ≤ IntKind.i64.max → inKind (.l [.i .i64, .i .i64, .i .i64, .i .i64, .i .i64]) p5 → IntKind.i64.min ≤ p6 → p6 ≤ IntKind.i64.max → IntKind.i64.min ≤ p7 → p7 ≤ IntKind.i64.max → (evFM ⟨[C_span_Composite, C_gen_Pixels], [LC_law16_SpanCompositeIsPixelByPixel_7]⟩ Tryd.prog [S_gen_Mod, S_gen_Max, S_pixel_Composite, S_ref06_Composite, S_law16_awake] 1000 4 (inL A_law16_SpanCompositeIsPixelByPixel [.int .i64 p0, .int .i64 p1, .int .i64 p2, p3, .int .i64 p4, p5, .int .i64 p6, .int .i64 p7]) R_law16_SpanCompositeIsPixelByPixel).ok = true) : SumOK Tryd.prog InvN S_law16_SpanCompositeIsPixelByPixel := sumOK_partL invN_stays env_law16_SpanCompositeIsPixelByPixel.1 env_law16_SpanCompositeIsPixelByPixel.2 1000 4 A_law16_SpanCompositeIsPixelByPixel R_law16_SpanCompositeIsPixelByPixel L_law16_SpanCompositeIsPixelByPixel_is okG_law16_SpanCompositeIsPixelByPixel (fun vs hk => by
  obtain ⟨_, _, rfl, ⟨p0, rfl, p0lo, p0hi⟩, _, _, rfl, ⟨p1, rfl, p1lo, p1hi⟩, _, _, rfl, ⟨p2, rfl, p2lo, p2hi⟩, p3, _, rfl, p3k, _, _, rfl, ⟨p4, rfl, p4lo, p4hi⟩, p5, _, rfl, p5k, _, _, rfl, ⟨p6, rfl, p6lo, p6hi⟩, _, _, rfl, ⟨p7, rfl, p7lo, p7hi⟩, rfl⟩ := hk
  exact h p0 p1 p2 p3 p4 p5 p6 p7 p0lo p0hi p1lo p1hi p2lo p2hi p3k p4lo p4hi p5k p6lo p6hi p7lo p7hi)
theorem pre_lc7 {m o k n : Int} {s d x : Value} (h1 : n = LN s) (h2 : LN d = n) (h3 : LN x = n) (h4 : n ≤ 1000) : pre_law16_SpanCompositeIsPixelByPixel_7 [.int .u16 m, .int .i64 o, .int .i64 k, .int .i64 n, s, d, x, .int .i64 0] = true := by
  show (decide (n = LN s) && decide (LN d = n) && decide (LN x = n) && decide ((0 : Int) ≤ 0) && decide (n ≤ 1000)) = true
  simp only [Bool.and_eq_true, decide_eq_true_eq]
  exact ⟨⟨⟨⟨h1, h2⟩, h3⟩, Int.le_refl 0⟩, h4⟩
theorem ok_law16_SpanCompositeIsPixelByPixel : SumOK Tryd.prog InvN S_law16_SpanCompositeIsPixelByPixel := okA_law16_SpanCompositeIsPixelByPixel (by
  intro p0 p1 p2 p3 p4 p5 p6 p7
  intros
  have hc := mod_bd p6 (n := 10) (by decide) (by decide)
  have hm := mMax p7
  have h1 : F_gen_Mod p6 10 ≤ 1000 := by omega
  have gs := (gPixels (mood := p2) (l := p3) hm.2.1 hm.2.2 h1 hc.1).2
  have gd := (gPixels (mood := p4) (l := p5) hm.2.1 hm.2.2 h1 hc.1).2
  rw [okB_law16_SpanCompositeIsPixelByPixel]
  simp only [pre_pixels h1 hc.1, cond_true]
  generalize F_gen_Pixels p2 p3 (F_gen_Mod p6 10) (F_gen_Max p7) = s at *
  generalize F_gen_Pixels p4 p5 (F_gen_Mod p6 10) (F_gen_Max p7) = d at *
  rw [pre_comp (by omega) (by omega), cond_true]
  refine bif_ok (fun _ => rfl) (fun _ => bif_ok (fun _ => rfl) (fun _ => bif_ok (fun _ => rfl) (fun h => ?_)))
  simp only [bne_eq_false_iff_eq] at h
  generalize (F_span_Composite (IntKind.i64.wrap (1 + F_gen_Mod p0 12)) (IntKind.i64.wrap (1 + F_gen_Mod p1 12)) (F_gen_Max p7) s d).1 = x at *
  rw [pre_lc7 gs.symm gd h h1]
  rfl)
noncomputable def F_law16_SpanCompositeIsPixelByPixel (p0 : Int) (p1 : Int) (p2 : Int) (p3 : Value) (p4 : Int) (p5 : Value) (p6 : Int) (p7 : Int) : Bool := tru ((L_law16_SpanCompositeIsPixelByPixel [.int .i64 p0, .int .i64 p1, .int .i64 p2, p3, .int .i64 p4, p5, .int .i64 p6, .int .i64 p7]).getD 0 undef)
theorem F_law16_SpanCompositeIsPixelByPixel_eq (p0 : Int) (p1 : Int) (p2 : Int) (p3 : Value) (p4 : Int) (p5 : Value) (p6 : Int) (p7 : Int) : F_law16_SpanCompositeIsPixelByPixel p0 p1 p2 p3 p4 p5 p6 p7 =
    let x0 := F_gen_Mod p6 10
    let x1 := F_gen_Max p7
    bif (pre_gen_Pixels [.int .i64 p2, p3, .int .i64 x0, .int .u16 x1]) then
      (bif (pre_gen_Pixels [.int .i64 p4, p5, .int .i64 x0, .int .u16 x1]) then
        (let x2 := F_gen_Mod p0 12
        let x3 := F_gen_Mod p1 12
        let x4 := F_gen_Pixels p2 p3 x0 x1
        let x5 := F_gen_Pixels p4 p5 x0 x1
        bif (pre_span_Composite [.int .i64 (IntKind.i64.wrap (1 + x2)), .int .i64 (IntKind.i64.wrap (1 + x3)), .int .u16 x1, x4, x5]) then
          (let x6 := F_law16_awake
          bif (!x6) then
            (false)
          else
            (let x7 := F_span_Composite (IntKind.i64.wrap (1 + x2)) (IntKind.i64.wrap (1 + x3)) x1 x4 x5
            bif (!x7.2) then
              (false)
            else
              (bif ((LN x7.1) != x0) then
                (false)
              else
                (bif (pre_law16_SpanCompositeIsPixelByPixel_7 [.int .u16 x1, .int .i64 (IntKind.i64.wrap (1 + x2)), .int .i64 (IntKind.i64.wrap (1 + x3)), .int .i64 x0, x4, x5, x7.1, .int .i64 0]) then
                  (let x8 := LF_law16_SpanCompositeIsPixelByPixel_7 [.int .u16 x1, .int .i64 (IntKind.i64.wrap (1 + x2)), .int .i64 (IntKind.i64.wrap (1 + x3)), .int .i64 x0, x4, x5, x7.1, .int .i64 0]
                  bif (IXT x8 0) then
                    ((tru (x8.getD 1 undef)))
                  else
                    (true))
                else
                  ((tru undef))))))
        else
          ((tru undef)))
      else
        ((tru undef)))
    else
      ((tru undef)) :=
  spellV (L := L_law16_SpanCompositeIsPixelByPixel) (fun l => tru ((l).getD 0 undef)) (evFM ⟨[C_span_Composite, C_gen_Pixels], [LC_law16_SpanCompositeIsPixelByPixel_7]⟩ Tryd.prog [S_gen_Mod, S_gen_Max, S_pixel_Composite, S_ref06_Composite, S_law16_awake] 1000 4 (inL A_law16_SpanCompositeIsPixelByPixel [.int .i64 p0, .int .i64 p1, .int .i64 p2, p3, .int .i64 p4, p5, .int .i64 p6, .int .i64 p7]) R_law16_SpanCompositeIsPixelByPixel) (L_law16_SpanCompositeIsPixelByPixel_is _) (by kernel_rfl)

/-! compositor/compositorlaw16.SpanScaleIsPixelByPixel -/
def A_law16_SpanScaleIsPixelByPixel : List PS := [.agg [.i .i64, .l [.i .i64, .i .i64, .i .i64, .i .i64, .i .i64]], .c (.l [.i .i64]), .c (.b), .c (.i .i64), .c (.i .i64), .c (.i .i64)]
def R_law16_SpanScaleIsPixelByPixel : RS := .one (.c (.b))
def head_law16_SpanScaleIsPixelByPixel_5 : Shp := ⟨[.any, .p (.c (.h (.l [.i .i64]))), .p (.c (.h (.b))), .any, .any, .any, .any, .any, .any, .any, .any, .any, .any, .p (.c (.h (.i .u16))), .p (.c (.h (.i .i64))), .p (.c (.h (.l [.i .u16, .i .u16, .i .u16, .i .u16, .i .u16]))), .p (.c (.h (.i .u16))), .p (.c (.ar 0 [.i .u16] 26)), .p (.c (.h (.i .i64))), .any, .any, .any, .any, .any, .any, .any, .any, .any, .any, .any, .any, .any, .any, .any, .any, .any, .any, .any, .any, .any, .any, .any, .any, .any, .any, .any, .any, .any, .any, .any, .any, .any, .any, .any, .any, .any, .any, .any, .any, .any, .any, .any, .any, .any, .any, .any, .any, .any, .any, .any, .any, .any, .any, .any, .any, .any, .any, .any, .any, .any, .any, .any, .any, .any, .any, .any, .any, .any, .any, .any, .any, .any, .any, .any, .any, .any, .any, .any, .any, .any, .any, .any, .any, .any], [(0, ⟨[], 26, true, some [.i .u16]⟩)]⟩
def outs_law16_SpanScaleIsPixelByPixel_5 : List (Xt × Shp × Nat) := [(.exit 0, ⟨[.any, .any, .p (.c (.h (.b))), .any, .any, .any, .any, .any, .any, .any, .any, .any, .any, .p (.c (.h (.i .u16))), .p (.c (.h (.i .i64))), .p (.c (.h (.l [.i .u16, .i .u16, .i .u16, .i .u16, .i .u16]))), .p (.c (.h (.i .u16))), .p (.c (.ar 0 [.i .u16] 26)), .any, .any, .any, .any, .any, .any, .any, .any, .any, .any, .any, .any, .any, .any, .any, .any, .any, .any, .any, .any, .any, .any, .any, .any, .any, .any, .any, .any, .any, .any, .any, .any, .any, .any, .any, .any, .any, .any, .any, .any, .any, .any, .any, .any, .any, .any, .any, .any, .any, .any, .any, .any, .any, .any, .any, .any, .any, .any, .any, .any, .any, .any, .any, .any, .any, .any, .any, .any, .any, .any, .any, .any, .any, .any, .any, .any, .any, .any, .any, .any, .any, .any, .any, .any, .any, .any], [(0, ⟨[], 26, true, some [.i .u16]⟩)]⟩, 1)]
noncomputable def OUT_law16_SpanScaleIsPixelByPixel_5 (p0 : Value) (p1 : Bool) (p2 : Int) (p3 : Int) (p4 : Value) (p5 : Int) (p6 : Int) (p7 : Value) : List Value :=
    bif (decide (p6 < p3)) then
      (bif p1 then
        (let x0 := F_gen_At p0 p6
        let x1 := F_gen_Sample x0 p2
        bif (RO 2 (SN p7 [.int .u16 x1])) then
          ([.int .i64 (-1), p0, .bool p1, .int .u16 p2, .int .i64 p3, p4, .int .u16 p5, .int .i64 (IntKind.i64.wrap (p6 + 1)), (SN p7 [.int .u16 x1])])
        else
          ([]))
      else
        ([.int .i64 0, .bool p1, .int .u16 p2, .int .i64 p3, p4, .int .u16 p5, p7]))
    else
      ([.int .i64 0, .bool p1, .int .u16 p2, .int .i64 p3, p4, .int .u16 p5, p7])
noncomputable def OL_law16_SpanScaleIsPixelByPixel_5 (xs : List Value) : List Value := OUT_law16_SpanScaleIsPixelByPixel_5 (xs.getD 0 undef) (tru (xs.getD 1 undef)) (num (xs.getD 2 undef)) (num (xs.getD 3 undef)) (xs.getD 4 undef) (num (xs.getD 5 undef)) (num (xs.getD 6 undef)) (xs.getD 7 undef)
noncomputable def LF_law16_SpanScaleIsPixelByPixel_5 : List Value → List Value := LFof OL_law16_SpanScaleIsPixelByPixel_5
def pre_law16_SpanScaleIsPixelByPixel_5 (xs : List Value) : Bool := decide (0 ≤ num (xs.getD 6 undef)) && decide (LN (xs.getD 7 undef) = num (xs.getD 6 undef)) && decide (num (xs.getD 3 undef) ≤ 1000)
noncomputable def LC_law16_SpanScaleIsPixelByPixel_5 : LoopC := ⟨5, 5, LF_law16_SpanScaleIsPixelByPixel_5, pre_law16_SpanScaleIsPixelByPixel_5, 1, head_law16_SpanScaleIsPixelByPixel_5, outs_law16_SpanScaleIsPixelByPixel_5⟩
theorem LF_law16_SpanScaleIsPixelByPixel_5_go (p0 : Value) (p1 : Bool) (p2 : Int) (p3 : Int) (p4 : Value) (p5 : Int) (p6 : Int) (p7 : Value) : LF_law16_SpanScaleIsPixelByPixel_5 [p0, .bool p1, .int .u16 p2, .int .i64 p3, p4, .int .u16 p5, .int .i64 p6, p7] = goOn LF_law16_SpanScaleIsPixelByPixel_5 (OUT_law16_SpanScaleIsPixelByPixel_5 p0 p1 p2 p3 p4 p5 p6 p7) := LFof_eq _ _
theorem okBL_law16_SpanScaleIsPixelByPixel_5 (p0 : Value) (p1 : Bool) (p2 : Int) (p3 : Int) (p4 : Value) (p5 : Int) (p6 : Int) (p7 : Value) : (evL ⟨[C_span_Scale, C_gen_Pixels], []⟩ Tryd.prog [S_gen_Mod, S_gen_Max, S_gen_Sample, S_scale_Both, S_gen_At, S_law16_awake] 1000 LC_law16_SpanScaleIsPixelByPixel_5 [p0, .bool p1, .int .u16 p2, .int .i64 p3, p4, .int .u16 p5, .int .i64 p6, p7]).ok =
    bif (decide (p6 < p3)) then
      (bif p1 then
        (let x0 := F_gen_At p0 p6
        let x1 := F_gen_Sample x0 p2
        bif (RO 2 (SN p7 [.int .u16 x1])) then
          (true)
        else
          (false))
      else
        (true))
    else
      (true) := (okR_eq _).trans (by kernel_rfl)
theorem step_law16_SpanScaleIsPixelByPixel_5 (p0 : Value) (p1 : Bool) (p2 : Int) (p3 : Int) (p4 : Value) (p5 : Int) (p6 : Int) (p7 : Value) : (evL ⟨[C_span_Scale, C_gen_Pixels], []⟩ Tryd.prog [S_gen_Mod, S_gen_Max, S_gen_Sample, S_scale_Both, S_gen_At, S_law16_awake] 1000 LC_law16_SpanScaleIsPixelByPixel_5 [p0, .bool p1, .int .u16 p2, .int .i64 p3, p4, .int .u16 p5, .int .i64 p6, p7]).outL = OUT_law16_SpanScaleIsPixelByPixel_5 p0 p1 p2 p3 p4 p5 p6 p7 := (fold_eq (fun l => l) _).trans (by kernel_rfl)
theorem one_law16_SpanScaleIsPixelByPixel_5 : (loopsBy Tryd.prog 5 5).length = 1 := by kernel_rfl
theorem env_law16_SpanScaleIsPixelByPixel_5 : EnvOK Tryd.prog InvN ⟨[C_span_Scale, C_gen_Pixels], []⟩ ∧ AllOK Tryd.prog InvN [S_gen_Mod, S_gen_Max, S_gen_Sample, S_scale_Both, S_gen_At, S_law16_awake] := ⟨⟨(allC_cons ok_span_Scale (allC_cons ok_gen_Pixels allC_nil)), allL_nil⟩, (allOK_cons ok_gen_Mod.any (allOK_cons ok_gen_Max.any (allOK_cons ok_gen_Sample.any (allOK_cons ok_scale_Both (allOK_cons ok_gen_At (allOK_cons ok_law16_awake allOK_nil))))))⟩
theorem lp_law16_SpanScaleIsPixelByPixel_5 (meas : List Value → Nat) (h : ∀ p0 p1 p2 p3 p4 p5 p6 p7, inKind (.l [.i .i64]) p0 → IntKind.u16.min ≤ p2 → p2 ≤ IntKind.u16.max → IntKind.i64.min ≤ p3 → p3 ≤ IntKind.i64.max → inKind (.l [.i .u16, .i .u16, .i .u16, .i .u16, .i .u16]) p4 → IntKind.u16.min ≤ p5 → p5 ≤ IntKind.u16.max → IntKind.i64.min ≤ p6 → p6 ≤ IntKind.i64.max → inKind (.l [.i .u16]) p7 → pre_law16_SpanScaleIsPixelByPixel_5 [p0, .bool p1, .int .u16 p2, .int .i64 p3, p4, .int .u16 p5, .int .i64 p6, p7] = true → (evL ⟨[C_span_Scale, C_gen_Pixels], []⟩ Tryd.prog [S_gen_Mod, S_gen_Max, S_gen_Sample, S_scale_Both, S_gen_At, S_law16_awake] 1000 LC_law16_SpanScaleIsPixelByPixel_5 [p0, .bool p1, .int .u16 p2, .int .i64 p3, p4, .int .u16 p5, .int .i64 p6, p7]).ok = true ∧ okO pre_law16_SpanScaleIsPixelByPixel_5 meas (meas [p0, .bool p1, .int .u16 p2, .int .i64 p3, p4, .int .u16 p5, .int .i64 p6, p7]) (OUT_law16_SpanScaleIsPixelByPixel_5 p0 p1 p2 p3 p4 p5 p6 p7)) : LoopTrue Tryd.prog InvN LC_law16_SpanScaleIsPixelByPixel_5 := loop_lf env_law16_SpanScaleIsPixelByPixel_5 1000 LC_law16_SpanScaleIsPixelByPixel_5 one_law16_SpanScaleIsPixelByPixel_5 meas OL_law16_SpanScaleIsPixelByPixel_5 rfl (fun xs hk hp => by
  have hk : KindsL [.l [.i .i64], .b, .i .u16, .i .i64, .l [.i .u16, .i .u16, .i .u16, .i .u16, .i .u16], .i .u16, .i .i64, .l [.i .u16]] xs := hk
  obtain ⟨p0, _, rfl, p0k, _, _, rfl, ⟨p1, rfl⟩, _, _, rfl, ⟨p2, rfl, p2lo, p2hi⟩, _, _, rfl, ⟨p3, rfl, p3lo, p3hi⟩, p4, _, rfl, p4k, _, _, rfl, ⟨p5, rfl, p5lo, p5hi⟩, _, _, rfl, ⟨p6, rfl, p6lo, p6hi⟩, p7, _, rfl, p7k, rfl⟩ := hk
  have h := h p0 p1 p2 p3 p4 p5 p6 p7 p0k p2lo p2hi p3lo p3hi p4k p5lo p5hi p6lo p6hi p7k hp
  exact ⟨h.1, step_law16_SpanScaleIsPixelByPixel_5 p0 p1 p2 p3 p4 p5 p6 p7, h.2⟩)
theorem ok_law16_SpanScaleIsPixelByPixel_5 : LoopTrue Tryd.prog InvN LC_law16_SpanScaleIsPixelByPixel_5 := lp_law16_SpanScaleIsPixelByPixel_5 (fun xs => (num (xs.getD 3 undef) - num (xs.getD 6 undef)).toNat) (by
  intro p0 p1 p2 p3 p4 p5 p6 p7 _ _ _ _ _ _ _ _ _ _ _ hp
  have hp : (decide (0 ≤ p6) && decide (LN p7 = p6) && decide (p3 ≤ 1000)) = true := hp
  simp only [Bool.and_eq_true, decide_eq_true_eq] at hp
  obtain ⟨⟨h1, h2⟩, h3⟩ := hp
  have ro : p6 < p3 → ∀ cs, RO 2 (SN p7 cs) = true := fun h cs => RO_of (n := 1001) (by rw [LN_SN]; omega) (by decide) (by decide)
  rw [okBL_law16_SpanScaleIsPixelByPixel_5]
  refine ⟨bif_ok (fun h => ?_) (fun _ => rfl), ?_⟩
  · have h : p6 < p3 := of_decide_eq_true h
    simp only [ro h, cond_true, Bool.cond_self]
  · unfold OUT_law16_SpanScaleIsPixelByPixel_5
    refine okO_bif (fun h => ?_) (fun _ => okO_exit 0)
    have h : p6 < p3 := of_decide_eq_true h
    simp only [ro h, cond_true]
    refine okO_bif (fun _ => okO_next ?_ ?_) (fun _ => okO_exit 0)
    · show (decide (0 ≤ IntKind.i64.wrap (p6 + 1)) && decide (LN (SN p7 _) = IntKind.i64.wrap (p6 + 1)) && decide (p3 ≤ 1000)) = true
      rw [i64_in (by omega) (by omega)]
      simp only [LN_SN, Bool.and_eq_true, decide_eq_true_eq]
      omega
    · show (p3 - IntKind.i64.wrap (p6 + 1)).toNat < (p3 - p6).toNat
      rw [i64_in (by omega) (by omega)]
      omega)
def head_law16_SpanScaleIsPixelByPixel_12 : Shp := ⟨[.any, .any, .p (.c (.h (.b))), .any, .any, .any, .any, .any, .any, .any, .any, .any, .any, .p (.c (.h (.i .u16))), .p (.c (.h (.i .i64))), .p (.c (.h (.l [.i .u16, .i .u16, .i .u16, .i .u16, .i .u16]))), .p (.c (.h (.i .u16))), .p (.c (.h (.l [.i .u16]))), .any, .p (.c (.h (.l [.i .u16, .i .u16, .i .u16, .i .u16, .i .u16]))), .any, .p (.c (.h (.i .i64))), .any, .any, .any, .any, .any, .any, .any, .any, .any, .any, .any, .any, .any, .any, .any, .any, .any, .any, .any, .any, .any, .any, .any, .any, .any, .any, .any, .any, .any, .any, .any, .any, .any, .any, .any, .any, .any, .any, .any, .any, .any, .any, .any, .any, .any, .any, .any, .any, .any, .any, .any, .any, .any, .any, .any, .any, .any, .any, .any, .any, .any, .any, .any, .any, .any, .any, .any, .any, .any, .any, .any, .any, .any, .any, .any, .any, .any, .any, .any, .any, .any, .any], []⟩
def outs_law16_SpanScaleIsPixelByPixel_12 : List (Xt × Shp × Nat) := [(.ret, ⟨[.any, .any, .any, .any, .any, .any, .any, .any, .any, .any, .any, .any, .p (.c (.h (.b))), .any, .any, .any, .any, .any, .any, .any, .any, .any, .any, .any, .any, .any, .any, .any, .any, .any, .any, .any, .any, .any, .any, .any, .any, .any, .any, .any, .any, .any, .any, .any, .any, .any, .any, .any, .any, .any, .any, .any, .any, .any, .any, .any, .any, .any, .any, .any, .any, .any, .any, .any, .any, .any, .any, .any, .any, .any, .any, .any, .any, .any, .any, .any, .any, .any, .any, .any, .any, .any, .any, .any, .any, .any, .any, .any, .any, .any, .any, .any, .any, .any, .any, .any, .any, .any, .any, .any, .any, .any, .any, .any], []⟩, 0), (.exit 2, ⟨[.any, .any, .any, .any, .any, .any, .any, .any, .any, .any, .any, .any, .any, .any, .any, .any, .any, .any, .any, .any, .any, .any, .any, .any, .any, .any, .any, .any, .any, .any, .any, .any, .any, .any, .any, .any, .any, .any, .any, .any, .any, .any, .any, .any, .any, .any, .any, .any, .any, .any, .any, .any, .any, .any, .any, .any, .any, .any, .any, .any, .any, .any, .any, .any, .any, .any, .any, .any, .any, .any, .any, .any, .any, .any, .any, .any, .any, .any, .any, .any, .any, .any, .any, .any, .any, .any, .any, .any, .any, .any, .any, .any, .any, .any, .any, .any, .any, .any, .any, .any, .any, .any, .any, .any], []⟩, 0)]
noncomputable def OUT_law16_SpanScaleIsPixelByPixel_12 (p0 : Bool) (p1 : Int) (p2 : Int) (p3 : Value) (p4 : Int) (p5 : Value) (p6 : Value) (p7 : Int) : List Value :=
    bif (decide (p7 < p2)) then
      (bif p0 then
        (bif (INB p5 p7) then
          (bif (INB p3 p7) then
            (let x0 := F_scale_Both (num (CV (IX p3 p7) 0)) (num (CV (IX p3 p7) 1)) (num (CV (IX p3 p7) 2)) (num (CV (IX p3 p7) 3)) (num (CV (IX p3 p7) 4)) (num (CV (IX p5 p7) 0)) p4 p1
            bif (!x0.2.2.2.2.2) then
              ([.int .i64 0, .bool false])
            else
              (bif (INB p6 p7) then
                (bif (!((((num (CV (IX p6 p7) 0)) == x0.1) && (((num (CV (IX p6 p7) 1)) == x0.2.1) && ((num (CV (IX p6 p7) 2)) == x0.2.2.1))) && (((num (CV (IX p6 p7) 3)) == x0.2.2.2.1) && ((num (CV (IX p6 p7) 4)) == x0.2.2.2.2.1)))) then
                  ([.int .i64 0, .bool false])
                else
                  ([.int .i64 (-1), .bool p0, .int .u16 p1, .int .i64 p2, p3, .int .u16 p4, p5, p6, .int .i64 (IntKind.i64.wrap (p7 + 1))]))
              else
                ([])))
          else
            ([]))
        else
          ([]))
      else
        (bif (INB p3 p7) then
          (let x1 := F_scale_Both (num (CV (IX p3 p7) 0)) (num (CV (IX p3 p7) 1)) (num (CV (IX p3 p7) 2)) (num (CV (IX p3 p7) 3)) (num (CV (IX p3 p7) 4)) p1 p4 p1
          bif (!x1.2.2.2.2.2) then
            ([.int .i64 0, .bool false])
          else
            (bif (INB p6 p7) then
              (bif (!((((num (CV (IX p6 p7) 0)) == x1.1) && (((num (CV (IX p6 p7) 1)) == x1.2.1) && ((num (CV (IX p6 p7) 2)) == x1.2.2.1))) && (((num (CV (IX p6 p7) 3)) == x1.2.2.2.1) && ((num (CV (IX p6 p7) 4)) == x1.2.2.2.2.1)))) then
                ([.int .i64 0, .bool false])
              else
                ([.int .i64 (-1), .bool p0, .int .u16 p1, .int .i64 p2, p3, .int .u16 p4, p5, p6, .int .i64 (IntKind.i64.wrap (p7 + 1))]))
            else
              ([])))
        else
          ([])))
    else
      ([.int .i64 1])
noncomputable def OL_law16_SpanScaleIsPixelByPixel_12 (xs : List Value) : List Value := OUT_law16_SpanScaleIsPixelByPixel_12 (tru (xs.getD 0 undef)) (num (xs.getD 1 undef)) (num (xs.getD 2 undef)) (xs.getD 3 undef) (num (xs.getD 4 undef)) (xs.getD 5 undef) (xs.getD 6 undef) (num (xs.getD 7 undef))
noncomputable def LF_law16_SpanScaleIsPixelByPixel_12 : List Value → List Value := LFof OL_law16_SpanScaleIsPixelByPixel_12
def pre_law16_SpanScaleIsPixelByPixel_12 (xs : List Value) : Bool := decide (LN (xs.getD 3 undef) = num (xs.getD 2 undef)) && decide (tru (xs.getD 0 undef) = true → LN (xs.getD 5 undef) = num (xs.getD 2 undef)) && decide (LN (xs.getD 6 undef) = num (xs.getD 2 undef)) && decide (0 ≤ num (xs.getD 7 undef)) && decide (num (xs.getD 2 undef) ≤ 1000)
noncomputable def LC_law16_SpanScaleIsPixelByPixel_12 : LoopC := ⟨5, 12, LF_law16_SpanScaleIsPixelByPixel_12, pre_law16_SpanScaleIsPixelByPixel_12, 0, head_law16_SpanScaleIsPixelByPixel_12, outs_law16_SpanScaleIsPixelByPixel_12⟩
theorem LF_law16_SpanScaleIsPixelByPixel_12_go (p0 : Bool) (p1 : Int) (p2 : Int) (p3 : Value) (p4 : Int) (p5 : Value) (p6 : Value) (p7 : Int) : LF_law16_SpanScaleIsPixelByPixel_12 [.bool p0, .int .u16 p1, .int .i64 p2, p3, .int .u16 p4, p5, p6, .int .i64 p7] = goOn LF_law16_SpanScaleIsPixelByPixel_12 (OUT_law16_SpanScaleIsPixelByPixel_12 p0 p1 p2 p3 p4 p5 p6 p7) := LFof_eq _ _
theorem okBL_law16_SpanScaleIsPixelByPixel_12 (p0 : Bool) (p1 : Int) (p2 : Int) (p3 : Value) (p4 : Int) (p5 : Value) (p6 : Value) (p7 : Int) : (evL ⟨[C_span_Scale, C_gen_Pixels], [LC_law16_SpanScaleIsPixelByPixel_5]⟩ Tryd.prog [S_gen_Mod, S_gen_Max, S_gen_Sample, S_scale_Both, S_gen_At, S_law16_awake] 1000 LC_law16_SpanScaleIsPixelByPixel_12 [.bool p0, .int .u16 p1, .int .i64 p2, p3, .int .u16 p4, p5, p6, .int .i64 p7]).ok =
    bif (decide (p7 < p2)) then
      (bif p0 then
        (bif (INB p5 p7) then
          (bif (INB p3 p7) then
            (let x0 := F_scale_Both (num (CV (IX p3 p7) 0)) (num (CV (IX p3 p7) 1)) (num (CV (IX p3 p7) 2)) (num (CV (IX p3 p7) 3)) (num (CV (IX p3 p7) 4)) (num (CV (IX p5 p7) 0)) p4 p1
            bif (!x0.2.2.2.2.2) then
              (true)
            else
              (bif (INB p6 p7) then
                (true)
              else
                (false)))
          else
            (false))
        else
          (false))
      else
        (bif (INB p3 p7) then
          (let x1 := F_scale_Both (num (CV (IX p3 p7) 0)) (num (CV (IX p3 p7) 1)) (num (CV (IX p3 p7) 2)) (num (CV (IX p3 p7) 3)) (num (CV (IX p3 p7) 4)) p1 p4 p1
          bif (!x1.2.2.2.2.2) then
            (true)
          else
            (bif (INB p6 p7) then
              (true)
            else
              (false)))
        else
          (false)))
    else
      (true) := (okR_eq _).trans (by kernel_rfl)
theorem step_law16_SpanScaleIsPixelByPixel_12 (p0 : Bool) (p1 : Int) (p2 : Int) (p3 : Value) (p4 : Int) (p5 : Value) (p6 : Value) (p7 : Int) : (evL ⟨[C_span_Scale, C_gen_Pixels], [LC_law16_SpanScaleIsPixelByPixel_5]⟩ Tryd.prog [S_gen_Mod, S_gen_Max, S_gen_Sample, S_scale_Both, S_gen_At, S_law16_awake] 1000 LC_law16_SpanScaleIsPixelByPixel_12 [.bool p0, .int .u16 p1, .int .i64 p2, p3, .int .u16 p4, p5, p6, .int .i64 p7]).outL = OUT_law16_SpanScaleIsPixelByPixel_12 p0 p1 p2 p3 p4 p5 p6 p7 := (fold_eq (fun l => l) _).trans (by kernel_rfl)
theorem one_law16_SpanScaleIsPixelByPixel_12 : (loopsBy Tryd.prog 5 12).length = 1 := by kernel_rfl
theorem env_law16_SpanScaleIsPixelByPixel_12 : EnvOK Tryd.prog InvN ⟨[C_span_Scale, C_gen_Pixels], [LC_law16_SpanScaleIsPixelByPixel_5]⟩ ∧ AllOK Tryd.prog InvN [S_gen_Mod, S_gen_Max, S_gen_Sample, S_scale_Both, S_gen_At, S_law16_awake] := ⟨⟨(allC_cons ok_span_Scale (allC_cons ok_gen_Pixels allC_nil)), (allL_cons ok_law16_SpanScaleIsPixelByPixel_5 allL_nil)⟩, (allOK_cons ok_gen_Mod.any (allOK_cons ok_gen_Max.any (allOK_cons ok_gen_Sample.any (allOK_cons ok_scale_Both (allOK_cons ok_gen_At (allOK_cons ok_law16_awake allOK_nil))))))⟩
theorem lp_law16_SpanScaleIsPixelByPixel_12 (meas : List Value → Nat) (h : ∀ p0 p1 p2 p3 p4 p5 p6 p7, IntKind.u16.min ≤ p1 → p1 ≤ IntKind.u16.max → IntKind.i64.min ≤ p2 → p2 ≤ IntKind.i64.max → inKind (.l [.i .u16, .i .u16, .i .u16, .i .u16, .i .u16]) p3 → IntKind.u16.min ≤ p4 → p4 ≤ IntKind.u16.max → inKind (.l [.i .u16]) p5 → inKind (.l [.i .u16, .i .u16, .i .u16, .i .u16, .i .u16]) p6 → IntKind.i64.min ≤ p7 → p7 ≤ IntKind.i64.max → pre_law16_SpanScaleIsPixelByPixel_12 [.bool p0, .int .u16 p1, .int .i64 p2, p3, .int .u16 p4, p5, p6, .int .i64 p7] = true → (evL ⟨[C_span_Scale, C_gen_Pixels], [LC_law16_SpanScaleIsPixelByPixel_5]⟩ Tryd.prog [S_gen_Mod, S_gen_Max, S_gen_Sample, S_scale_Both, S_gen_At, S_law16_awake] 1000 LC_law16_SpanScaleIsPixelByPixel_12 [.bool p0, .int .u16 p1, .int .i64 p2, p3, .int .u16 p4, p5, p6, .int .i64 p7]).ok = true ∧ okO pre_law16_SpanScaleIsPixelByPixel_12 meas (meas [.bool p0, .int .u16 p1, .int .i64 p2, p3, .int .u16 p4, p5, p6, .int .i64 p7]) (OUT_law16_SpanScaleIsPixelByPixel_12 p0 p1 p2 p3 p4 p5 p6 p7)) : LoopTrue Tryd.prog InvN LC_law16_SpanScaleIsPixelByPixel_12 := loop_lf env_law16_SpanScaleIsPixelByPixel_12 1000 LC_law16_SpanScaleIsPixelByPixel_12 one_law16_SpanScaleIsPixelByPixel_12 meas OL_law16_SpanScaleIsPixelByPixel_12 rfl (fun xs hk hp => by
  have hk : KindsL [.b, .i .u16, .i .i64, .l [.i .u16, .i .u16, .i .u16, .i .u16, .i .u16], .i .u16, .l [.i .u16], .l [.i .u16, .i .u16, .i .u16, .i .u16, .i .u16], .i .i64] xs := hk
  obtain ⟨_, _, rfl, ⟨p0, rfl⟩, _, _, rfl, ⟨p1, rfl, p1lo, p1hi⟩, _, _, rfl, ⟨p2, rfl, p2lo, p2hi⟩, p3, _, rfl, p3k, _, _, rfl, ⟨p4, rfl, p4lo, p4hi⟩, p5, _, rfl, p5k, p6, _, rfl, p6k, _, _, rfl, ⟨p7, rfl, p7lo, p7hi⟩, rfl⟩ := hk
  have h := h p0 p1 p2 p3 p4 p5 p6 p7 p1lo p1hi p2lo p2hi p3k p4lo p4hi p5k p6k p7lo p7hi hp
  exact ⟨h.1, step_law16_SpanScaleIsPixelByPixel_12 p0 p1 p2 p3 p4 p5 p6 p7, h.2⟩)
theorem ok_law16_SpanScaleIsPixelByPixel_12 : LoopTrue Tryd.prog InvN LC_law16_SpanScaleIsPixelByPixel_12 := lp_law16_SpanScaleIsPixelByPixel_12 (fun xs => (num (xs.getD 2 undef) - num (xs.getD 7 undef)).toNat) (by
  intro p0 p1 p2 p3 p4 p5 p6 p7 _ _ _ _ _ _ _ _ _ _ _ hp
  have hp : (decide (LN p3 = p2) && decide (p0 = true → LN p5 = p2) && decide (LN p6 = p2) && decide (0 ≤ p7) && decide (p2 ≤ 1000)) = true := hp
  simp only [Bool.and_eq_true, decide_eq_true_eq] at hp
  obtain ⟨⟨⟨⟨h1, h2⟩, h3⟩, h4⟩, h5⟩ := hp
  have nx : p7 < p2 → okO pre_law16_SpanScaleIsPixelByPixel_12 (fun xs => (num (xs.getD 2 undef) - num (xs.getD 7 undef)).toNat) (p2 - p7).toNat [.int .i64 (-1), .bool p0, .int .u16 p1, .int .i64 p2, p3, .int .u16 p4, p5, p6, .int .i64 (IntKind.i64.wrap (p7 + 1))] := fun h => okO_next (by
    show (decide (LN p3 = p2) && decide (p0 = true → LN p5 = p2) && decide (LN p6 = p2) && decide (0 ≤ IntKind.i64.wrap (p7 + 1)) && decide (p2 ≤ 1000)) = true
    rw [i64_in (by omega) (by omega)]
    simp only [Bool.and_eq_true, decide_eq_true_eq]
    exact ⟨⟨⟨⟨h1, h2⟩, h3⟩, by omega⟩, h5⟩) (by
    show (p2 - IntKind.i64.wrap (p7 + 1)).toNat < (p2 - p7).toNat
    rw [i64_in (by omega) (by omega)]
    omega)
  rw [okBL_law16_SpanScaleIsPixelByPixel_12]
  refine ⟨bif_ok (fun h => ?_) (fun _ => rfl), ?_⟩
  · have h : p7 < p2 := of_decide_eq_true h
    have g3 : INB p3 p7 = true := INB_of h4 (by omega)
    have g6 : INB p6 p7 = true := INB_of h4 (by omega)
    cases p0
    · simp only [g3, g6, cond_true, cond_false, Bool.cond_self]
    · have g5 : INB p5 p7 = true := INB_of h4 (by have := h2 rfl; omega)
      simp only [g3, g5, g6, cond_true, Bool.cond_self]
  · unfold OUT_law16_SpanScaleIsPixelByPixel_12
    refine okO_bif (fun h => ?_) (fun _ => okO_exit 1)
    have h : p7 < p2 := of_decide_eq_true h
    have g3 : INB p3 p7 = true := INB_of h4 (by omega)
    have g6 : INB p6 p7 = true := INB_of h4 (by omega)
    have nx := nx h
    cases p0
    · simp only [g3, g6, cond_true, cond_false]
      repeat' (first | refine okO_bif (fun _ => ?_) (fun _ => ?_) | exact okO_exit 0 | exact nx)
    · have g5 : INB p5 p7 = true := INB_of h4 (by have := h2 rfl; omega)
      simp only [g3, g5, g6, cond_true]
      repeat' (first | refine okO_bif (fun _ => ?_) (fun _ => ?_) | exact okO_exit 0 | exact nx))
noncomputable def L_law16_SpanScaleIsPixelByPixel : List Value → List Value := Classical.choose (veil fun vs => (evFM ⟨[C_span_Scale, C_gen_Pixels], [LC_law16_SpanScaleIsPixelByPixel_5, LC_law16_SpanScaleIsPixelByPixel_12]⟩ Tryd.prog [S_gen_Mod, S_gen_Max, S_gen_Sample, S_scale_Both, S_gen_At, S_law16_awake] 1000 5 (inL A_law16_SpanScaleIsPixelByPixel vs) R_law16_SpanScaleIsPixelByPixel).outL)
theorem L_law16_SpanScaleIsPixelByPixel_is (vs : List Value) : L_law16_SpanScaleIsPixelByPixel vs = (evFM ⟨[C_span_Scale, C_gen_Pixels], [LC_law16_SpanScaleIsPixelByPixel_5, LC_law16_SpanScaleIsPixelByPixel_12]⟩ Tryd.prog [S_gen_Mod, S_gen_Max, S_gen_Sample, S_scale_Both, S_gen_At, S_law16_awake] 1000 5 (inL A_law16_SpanScaleIsPixelByPixel vs) R_law16_SpanScaleIsPixelByPixel).outL := Classical.choose_spec (veil fun vs => (evFM ⟨[C_span_Scale, C_gen_Pixels], [LC_law16_SpanScaleIsPixelByPixel_5, LC_law16_SpanScaleIsPixelByPixel_12]⟩ Tryd.prog [S_gen_Mod, S_gen_Max, S_gen_Sample, S_scale_Both, S_gen_At, S_law16_awake] 1000 5 (inL A_law16_SpanScaleIsPixelByPixel vs) R_law16_SpanScaleIsPixelByPixel).outL) vs
noncomputable def S_law16_SpanScaleIsPixelByPixel : Sum := ⟨5, L_law16_SpanScaleIsPixelByPixel, A_law16_SpanScaleIsPixelByPixel, R_law16_SpanScaleIsPixelByPixel⟩
theorem env_law16_SpanScaleIsPixelByPixel : EnvOK Tryd.prog InvN ⟨[C_span_Scale, C_gen_Pixels], [LC_law16_SpanScaleIsPixelByPixel_5, LC_law16_SpanScaleIsPixelByPixel_12]⟩ ∧ AllOK Tryd.prog InvN [S_gen_Mod, S_gen_Max, S_gen_Sample, S_scale_Both, S_gen_At, S_law16_awake] := ⟨⟨(allC_cons ok_span_Scale (allC_cons ok_gen_Pixels allC_nil)), (allL_cons ok_law16_SpanScaleIsPixelByPixel_5 (allL_cons ok_law16_SpanScaleIsPixelByPixel_12 allL_nil))⟩, (allOK_cons ok_gen_Mod.any (allOK_cons ok_gen_Max.any (allOK_cons ok_gen_Sample.any (allOK_cons ok_scale_Both (allOK_cons ok_gen_At (allOK_cons ok_law16_awake allOK_nil))))))⟩
theorem okG_law16_SpanScaleIsPixelByPixel (vs : List Value) : (evFM ⟨[C_span_Scale, C_gen_Pixels], [LC_law16_SpanScaleIsPixelByPixel_5, LC_law16_SpanScaleIsPixelByPixel_12]⟩ Tryd.prog [S_gen_Mod, S_gen_Max, S_gen_Sample, S_scale_Both, S_gen_At, S_law16_awake] 1000 5 (inL A_law16_SpanScaleIsPixelByPixel vs) R_law16_SpanScaleIsPixelByPixel).goodX R_law16_SpanScaleIsPixelByPixel = true := by kernel_rfl
theorem okB_law16_SpanScaleIsPixelByPixel (p0 : Int) (p1 : Value) (p2 : Value) (p3 : Bool) (p4 : Int) (p5 : Int) (p6 : Int) : (evFM ⟨[C_span_Scale, C_gen_Pixels], [LC_law16_SpanScaleIsPixelByPixel_5, LC_law16_SpanScaleIsPixelByPixel_12]⟩ Tryd.prog [S_gen_Mod, S_gen_Max, S_gen_Sample, S_scale_Both, S_gen_At, S_law16_awake] 1000 5 (inL A_law16_SpanScaleIsPixelByPixel [.int .i64 p0, p1, p2, .bool p3, .int .i64 p4, .int .i64 p5, .int .i64 p6]) R_law16_SpanScaleIsPixelByPixel).ok =
    let x0 := F_gen_Mod p5 10
    let x1 := F_gen_Max p6
    bif (pre_gen_Pixels [.int .i64 p0, p1, .int .i64 x0, .int .u16 x1]) then
      (let x2 := F_gen_Pixels p0 p1 x0 x1
      let x3 := F_gen_Sample p4 x1
      bif (pre_law16_SpanScaleIsPixelByPixel_5 [p2, .bool p3, .int .u16 x1, .int .i64 x0, x2, .int .u16 x3, .int .i64 0, NILV]) then
        (let x4 := LF_law16_SpanScaleIsPixelByPixel_5 [p2, .bool p3, .int .u16 x1, .int .i64 x0, x2, .int .u16 x3, .int .i64 0, NILV]
        bif (pre_span_Scale [(x4.getD 4 undef), (x4.getD 6 undef), .int .u16 (num (x4.getD 5 undef)), .int .u16 (num (x4.getD 2 undef))]) then
          (let x5 := F_law16_awake
          bif (!x5) then
            (true)
          else
            (let x6 := F_span_Scale (x4.getD 4 undef) (x4.getD 6 undef) (num (x4.getD 5 undef)) (num (x4.getD 2 undef))
            bif (!x6.2) then
              (true)
            else
              (bif ((LN x6.1) != (num (x4.getD 3 undef))) then
                (true)
              else
                (bif (pre_law16_SpanScaleIsPixelByPixel_12 [.bool (tru (x4.getD 1 undef)), .int .u16 (num (x4.getD 2 undef)), .int .i64 (num (x4.getD 3 undef)), (x4.getD 4 undef), .int .u16 (num (x4.getD 5 undef)), (x4.getD 6 undef), x6.1, .int .i64 0]) then
                  (true)
                else
                  (false)))))
        else
          (false))
      else
        (false))
    else
      (false) := (okR_eq _).trans (by kernel_rfl)
theorem okA_law16_SpanScaleIsPixelByPixel (h : ∀ p0 p1 p2 p3 p4 p5 p6 , IntKind.i64.min ≤ p0 → p0 ≤ IntKind.i64.max → inKind (.l [.i .i64, .i .i64, .i .i64, .i .i64, .i .i64]) p1 → inKind (.l [.i .i64]) p2 → IntKind.i64.min ≤ p4 → p4 ≤ IntKind.i64.max → IntKind.i64.min ≤ p5 → p5 ≤ IntKind.i64.max → IntKind.i64.min ≤ p6 → p6 ≤ IntKind.i64.max → (evFM ⟨[C_span_Scale, C_gen_Pixels], [LC_law16_SpanScaleIsPixelByPixel_5, LC_law16_SpanScaleIsPixelByPixel_12]⟩ Tryd.prog [S_gen_Mod, S_gen_Max, S_gen_Sample, S_scale_Both, S_gen_At, S_law16_awake] 1000 5 (inL A_law16_SpanScaleIsPixelByPixel [.int .i64 p0, p1, p2, .bool p3, .int .i64 p4, .int .i64 p5, .int .i64 p6]) R_law16_SpanScaleIsPixelByPixel).ok = true) : SumOK Tryd.prog InvN S_law16_SpanScaleIsPixelByPixel := sumOK_partL invN_stays env_law16_SpanScaleIsPixelByPixel.1 env_law16_SpanScaleIsPixelByPixel.2 1000 5 A_law16_SpanScaleIsPixelByPixel R_law16_SpanScaleIsPixelByPixel L_law16_SpanScaleIsPixelByPixel_is okG_law16_SpanScaleIsPixelByPixel (fun vs hk => by
  obtain ⟨_, _, rfl, ⟨p0, rfl, p0lo, p0hi⟩, p1, _, rfl, p1k, p2, _, rfl, p2k, _, _, rfl, ⟨p3, rfl⟩, _, _, rfl, ⟨p4, rfl, p4lo, p4hi⟩, _, _, rfl, ⟨p5, rfl, p5lo, p5hi⟩, _, _, rfl, ⟨p6, rfl, p6lo, p6hi⟩, rfl⟩ := hk
  exact h p0 p1 p2 p3 p4 p5 p6 p0lo p0hi p1k p2k p4lo p4hi p5lo p5hi p6lo p6hi)
theorem maskLoop {a : Value} {t : Bool} {m n o : Int} {l : Value} (m0 : 0 ≤ m) (m1 : m ≤ 65535) (hn : n ≤ 1000) : ∀ i, 0 ≤ i → i ≤ n → ∀ out, MR m out → LN out = i → (t = false → out = NILV) →
    ∃ x, LF_law16_SpanScaleIsPixelByPixel_5 [a, .bool t, .int .u16 m, .int .i64 n, l, .int .u16 o, .int .i64 i, out] = [.int .i64 0, .bool t, .int .u16 m, .int .i64 n, l, .int .u16 o, x] ∧ MR m x ∧ (t = true → LN x = n) ∧ (t = false → x = NILV) :=
  up_to (fun i h0 h1 ih out hv hl ht => by
    rw [LF_law16_SpanScaleIsPixelByPixel_5_go]
    unfold OUT_law16_SpanScaleIsPixelByPixel_5
    have ro : ∀ cs, RO 2 (SN out cs) = true := fun cs => RO_of (n := 1001) (by rw [LN_SN]; omega) (by decide) (by decide)
    rw [decide_eq_true h1]
    rw [cond_true]
    cases t
    · rw [cond_false]
      exact ⟨out, rfl, hv, (fun h => Bool.noConfusion h), ht⟩
    · rw [cond_true]
      dsimp only
      rw [ro, cond_true, goOn_next, i64_in (show -9223372036854775808 ≤ i + 1 by omega) (show i + 1 ≤ 9223372036854775807 by omega)]
      have s := gSampleM (F_gen_At a i) m0 m1
      exact ih _ (hv.snoc s.1 s.2 m1 (by omega)) (by rw [LN_SN]; omega) (fun h => Bool.noConfusion h)) (fun out hv hl ht => by
    rw [LF_law16_SpanScaleIsPixelByPixel_5_go]
    unfold OUT_law16_SpanScaleIsPixelByPixel_5
    rw [decide_eq_false (by omega)]
    exact ⟨out, rfl, hv, fun _ => hl, ht⟩)
theorem pre_ls5 {a l : Value} {t : Bool} {m n o : Int} (h : n ≤ 1000) : pre_law16_SpanScaleIsPixelByPixel_5 [a, .bool t, .int .u16 m, .int .i64 n, l, .int .u16 o, .int .i64 0, NILV] = true := by
  show (decide ((0 : Int) ≤ 0) && decide (LN NILV = 0) && decide (n ≤ 1000)) = true
  simp only [Bool.and_eq_true, decide_eq_true_eq]
  exact ⟨⟨Int.le_refl 0, LN_nil⟩, h⟩
theorem pre_ls12 {s x y : Value} {t : Bool} {m n o : Int} (h1 : LN s = n) (h2 : t = true → LN x = n) (h3 : LN y = n) (h4 : n ≤ 1000) : pre_law16_SpanScaleIsPixelByPixel_12 [.bool t, .int .u16 m, .int .i64 n, s, .int .u16 o, x, y, .int .i64 0] = true := by
  show (decide (LN s = n) && decide (t = true → LN x = n) && decide (LN y = n) && decide ((0 : Int) ≤ 0) && decide (n ≤ 1000)) = true
  simp only [Bool.and_eq_true, decide_eq_true_eq]
  exact ⟨⟨⟨⟨h1, h2⟩, h3⟩, Int.le_refl 0⟩, h4⟩
theorem ok_law16_SpanScaleIsPixelByPixel : SumOK Tryd.prog InvN S_law16_SpanScaleIsPixelByPixel := okA_law16_SpanScaleIsPixelByPixel (by
  intro p0 p1 p2 p3 p4 p5 p6
  intros
  have hc := mod_bd p5 (n := 10) (by decide) (by decide)
  have hm := mMax p6
  have h1 : F_gen_Mod p5 10 ≤ 1000 := by omega
  have gs := (gPixels (mood := p0) (l := p1) hm.2.1 hm.2.2 h1 hc.1).2
  rw [okB_law16_SpanScaleIsPixelByPixel]
  simp only [pre_pixels h1 hc.1, cond_true]
  generalize F_gen_Pixels p0 p1 (F_gen_Mod p5 10) (F_gen_Max p6) = s at *
  generalize F_gen_Sample p4 (F_gen_Max p6) = o at *
  obtain ⟨x, e, -, hx, -⟩ := maskLoop (a := p2) (t := p3) (l := s) (o := o) hm.2.1 hm.2.2 h1 0 (Int.le_refl 0) hc.1 NILV MR.nil LN_nil (fun _ => rfl)
  rw [pre_ls5 h1, cond_true, e]
  simp only [List.getD_cons_succ, List.getD_cons_zero, num, tru]
  rw [pre_scal (by omega), cond_true]
  refine bif_ok (fun _ => rfl) (fun _ => bif_ok (fun _ => rfl) (fun _ => bif_ok (fun _ => rfl) (fun h => ?_)))
  simp only [bne_eq_false_iff_eq] at h
  generalize (F_span_Scale s x o (F_gen_Max p6)).1 = y at *
  rw [pre_ls12 gs hx h h1]
  rfl)
noncomputable def F_law16_SpanScaleIsPixelByPixel (p0 : Int) (p1 : Value) (p2 : Value) (p3 : Bool) (p4 : Int) (p5 : Int) (p6 : Int) : Bool := tru ((L_law16_SpanScaleIsPixelByPixel [.int .i64 p0, p1, p2, .bool p3, .int .i64 p4, .int .i64 p5, .int .i64 p6]).getD 0 undef)
theorem F_law16_SpanScaleIsPixelByPixel_eq (p0 : Int) (p1 : Value) (p2 : Value) (p3 : Bool) (p4 : Int) (p5 : Int) (p6 : Int) : F_law16_SpanScaleIsPixelByPixel p0 p1 p2 p3 p4 p5 p6 =
    let x0 := F_gen_Mod p5 10
    let x1 := F_gen_Max p6
    bif (pre_gen_Pixels [.int .i64 p0, p1, .int .i64 x0, .int .u16 x1]) then
      (let x2 := F_gen_Pixels p0 p1 x0 x1
      let x3 := F_gen_Sample p4 x1
      bif (pre_law16_SpanScaleIsPixelByPixel_5 [p2, .bool p3, .int .u16 x1, .int .i64 x0, x2, .int .u16 x3, .int .i64 0, NILV]) then
        (let x4 := LF_law16_SpanScaleIsPixelByPixel_5 [p2, .bool p3, .int .u16 x1, .int .i64 x0, x2, .int .u16 x3, .int .i64 0, NILV]
        bif (pre_span_Scale [(x4.getD 4 undef), (x4.getD 6 undef), .int .u16 (num (x4.getD 5 undef)), .int .u16 (num (x4.getD 2 undef))]) then
          (let x5 := F_law16_awake
          bif (!x5) then
            (false)
          else
            (let x6 := F_span_Scale (x4.getD 4 undef) (x4.getD 6 undef) (num (x4.getD 5 undef)) (num (x4.getD 2 undef))
            bif (!x6.2) then
              (false)
            else
              (bif ((LN x6.1) != (num (x4.getD 3 undef))) then
                (false)
              else
                (bif (pre_law16_SpanScaleIsPixelByPixel_12 [.bool (tru (x4.getD 1 undef)), .int .u16 (num (x4.getD 2 undef)), .int .i64 (num (x4.getD 3 undef)), (x4.getD 4 undef), .int .u16 (num (x4.getD 5 undef)), (x4.getD 6 undef), x6.1, .int .i64 0]) then
                  (let x7 := LF_law16_SpanScaleIsPixelByPixel_12 [.bool (tru (x4.getD 1 undef)), .int .u16 (num (x4.getD 2 undef)), .int .i64 (num (x4.getD 3 undef)), (x4.getD 4 undef), .int .u16 (num (x4.getD 5 undef)), (x4.getD 6 undef), x6.1, .int .i64 0]
                  bif (IXT x7 0) then
                    ((tru (x7.getD 1 undef)))
                  else
                    (true))
                else
                  ((tru undef))))))
        else
          ((tru undef)))
      else
        ((tru undef)))
    else
      ((tru undef)) :=
  spellV (L := L_law16_SpanScaleIsPixelByPixel) (fun l => tru ((l).getD 0 undef)) (evFM ⟨[C_span_Scale, C_gen_Pixels], [LC_law16_SpanScaleIsPixelByPixel_5, LC_law16_SpanScaleIsPixelByPixel_12]⟩ Tryd.prog [S_gen_Mod, S_gen_Max, S_gen_Sample, S_scale_Both, S_gen_At, S_law16_awake] 1000 5 (inL A_law16_SpanScaleIsPixelByPixel [.int .i64 p0, p1, p2, .bool p3, .int .i64 p4, .int .i64 p5, .int .i64 p6]) R_law16_SpanScaleIsPixelByPixel) (L_law16_SpanScaleIsPixelByPixel_is _) (by kernel_rfl)
end Go.Proofs.YtfjhhadmncjdiaaDoor
