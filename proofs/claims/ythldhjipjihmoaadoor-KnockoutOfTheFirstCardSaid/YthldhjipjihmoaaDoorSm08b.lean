/- The statements of the chapters 08 and 10 that reach the operators, their checks. Printed by a program (gen/Gen.lean); what each function does is told by the evaluator, and the kernel checks it. No condition. -/
import Derived.Test.YthldhjipjihmoaaDoorSm08
import Derived.KernelRfl
namespace Go.Proofs.YthldhjipjihmoaaDoor
open Go.RowKit

/-! compositor/compositorlaw08.MixAgrees -/
def A_law08_MixAgrees : List PS := [.c (.i .i64), .c (.i .i64), .agg [.i .i64, .i .i64, .i .i64, .i .i64], .c (.i .i64)]
def R_law08_MixAgrees : RS := .one (.c (.b))
noncomputable def L_law08_MixAgrees : List Value → List Value := Classical.choose (veil fun vs => (evF Tryd.prog [S_gen_Mod, S_gen_Max, S_gen_Alpha, S_mix_Color, S_ref06_Color, S_law08_awake] 1000 3 (inL A_law08_MixAgrees vs)).outL)
theorem L_law08_MixAgrees_is (vs : List Value) : L_law08_MixAgrees vs = (evF Tryd.prog [S_gen_Mod, S_gen_Max, S_gen_Alpha, S_mix_Color, S_ref06_Color, S_law08_awake] 1000 3 (inL A_law08_MixAgrees vs)).outL := Classical.choose_spec (veil fun vs => (evF Tryd.prog [S_gen_Mod, S_gen_Max, S_gen_Alpha, S_mix_Color, S_ref06_Color, S_law08_awake] 1000 3 (inL A_law08_MixAgrees vs)).outL) vs
noncomputable def S_law08_MixAgrees : Sum := ⟨3, L_law08_MixAgrees, A_law08_MixAgrees, R_law08_MixAgrees⟩
theorem ok_law08_MixAgrees : SumOK Tryd.prog InvN S_law08_MixAgrees := sumOK_evV invN_stays (allOK_cons ok_gen_Mod.any (allOK_cons ok_gen_Max.any (allOK_cons ok_gen_Alpha.any (allOK_cons ok_mix_Color (allOK_cons ok_ref06_Color (allOK_cons ok_law08_awake allOK_nil)))))) 1000 3 A_law08_MixAgrees R_law08_MixAgrees L_law08_MixAgrees_is (fun _ => by kernel_rfl)
noncomputable def F_law08_MixAgrees (p0 : Int) (p1 : Int) (p2 : Int) (p3 : Int) (p4 : Int) (p5 : Int) (p6 : Int) : Bool := tru ((L_law08_MixAgrees [.int .i64 p0, .int .i64 p1, .int .i64 p2, .int .i64 p3, .int .i64 p4, .int .i64 p5, .int .i64 p6]).getD 0 undef)
theorem F_law08_MixAgrees_eq (p0 : Int) (p1 : Int) (p2 : Int) (p3 : Int) (p4 : Int) (p5 : Int) (p6 : Int) : F_law08_MixAgrees p0 p1 p2 p3 p4 p5 p6 =
    let x0 := F_law08_awake
    bif x0 then
      (let x1 := F_gen_Mod p0 14
      let x2 := F_gen_Mod p1 14
      let x3 := F_gen_Max p6
      let x4 := F_gen_Alpha p2 p3 x3
      let x5 := F_gen_Alpha p4 p5 x3
      let x6 := F_mix_Color x1 x2 x3 x4.1 x4.2 x5.1 x5.2
      let x7 := F_ref06_Color x1 x2 x3 x4.1 x4.2 x5.1 x5.2
      bif (x6.1 == x7.1) then
        ((x6.2 == x7.2))
      else
        (false))
    else
      (false) :=
  spellV (L := L_law08_MixAgrees) (fun l => tru ((l).getD 0 undef)) (evF Tryd.prog [S_gen_Mod, S_gen_Max, S_gen_Alpha, S_mix_Color, S_ref06_Color, S_law08_awake] 1000 3 (inL A_law08_MixAgrees [.int .i64 p0, .int .i64 p1, .int .i64 p2, .int .i64 p3, .int .i64 p4, .int .i64 p5, .int .i64 p6])) (L_law08_MixAgrees_is _) (by kernel_rfl)

/-! compositor/compositorlaw08.MixAgreesForAll -/
def A_law08_MixAgreesForAll : List PS := [.c (.i .i64), .c (.i .i64), .c (.i .u16), .c (.i .u16), .c (.i .u16), .c (.i .u16), .c (.i .u16), .c (.b)]
def R_law08_MixAgreesForAll : RS := .one (.c (.b))
noncomputable def L_law08_MixAgreesForAll : List Value → List Value := Classical.choose (veil fun vs => (evF Tryd.prog [S_gen_Mod, S_mix_Value, S_mix_Color, S_ref06_Value, S_ref06_Color, S_law08_awake] 1000 4 (inL A_law08_MixAgreesForAll vs)).outL)
theorem L_law08_MixAgreesForAll_is (vs : List Value) : L_law08_MixAgreesForAll vs = (evF Tryd.prog [S_gen_Mod, S_mix_Value, S_mix_Color, S_ref06_Value, S_ref06_Color, S_law08_awake] 1000 4 (inL A_law08_MixAgreesForAll vs)).outL := Classical.choose_spec (veil fun vs => (evF Tryd.prog [S_gen_Mod, S_mix_Value, S_mix_Color, S_ref06_Value, S_ref06_Color, S_law08_awake] 1000 4 (inL A_law08_MixAgreesForAll vs)).outL) vs
noncomputable def S_law08_MixAgreesForAll : Sum := ⟨4, L_law08_MixAgreesForAll, A_law08_MixAgreesForAll, R_law08_MixAgreesForAll⟩
theorem ok_law08_MixAgreesForAll : SumOK Tryd.prog InvN S_law08_MixAgreesForAll := sumOK_evV invN_stays (allOK_cons ok_gen_Mod.any (allOK_cons ok_mix_Value (allOK_cons ok_mix_Color (allOK_cons ok_ref06_Value (allOK_cons ok_ref06_Color (allOK_cons ok_law08_awake allOK_nil)))))) 1000 4 A_law08_MixAgreesForAll R_law08_MixAgreesForAll L_law08_MixAgreesForAll_is (fun _ => by kernel_rfl)
noncomputable def F_law08_MixAgreesForAll (p0 : Int) (p1 : Int) (p2 : Int) (p3 : Int) (p4 : Int) (p5 : Int) (p6 : Int) (p7 : Bool) : Bool := tru ((L_law08_MixAgreesForAll [.int .i64 p0, .int .i64 p1, .int .u16 p2, .int .u16 p3, .int .u16 p4, .int .u16 p5, .int .u16 p6, .bool p7]).getD 0 undef)
theorem F_law08_MixAgreesForAll_eq (p0 : Int) (p1 : Int) (p2 : Int) (p3 : Int) (p4 : Int) (p5 : Int) (p6 : Int) (p7 : Bool) : F_law08_MixAgreesForAll p0 p1 p2 p3 p4 p5 p6 p7 =
    bif p7 then
      (let x0 := F_law08_awake
      bif x0 then
        (let x1 := F_gen_Mod p0 14
        let x2 := F_gen_Mod p1 14
        let x3 := F_mix_Color x1 x2 65535 p3 p4 p5 p6
        let x4 := F_ref06_Color x1 x2 65535 p3 p4 p5 p6
        bif (x3.1 == x4.1) then
          (bif (x3.2 == x4.2) then
            (let x5 := F_mix_Value x1 x2 65535 p3 p4 p5 p6
            let x6 := F_ref06_Value x1 x2 65535 p3 p4 p5 p6
            bif (((x5.1 == x6.1) && (x5.2.1 == x6.2.1)) && ((x5.2.2.1 == x6.2.2.1) && ((x5.2.2.2.1 == x6.2.2.2.1) && (x5.2.2.2.2.1 == x6.2.2.2.2.1)))) then
              ((x5.2.2.2.2.2 == x6.2.2.2.2.2))
            else
              (false))
          else
            (false))
        else
          (false))
      else
        (false))
    else
      (let x7 := F_law08_awake
      bif x7 then
        (let x8 := F_gen_Mod p0 14
        let x9 := F_gen_Mod p1 14
        let x10 := F_mix_Color x8 x9 p2 p3 p4 p5 p6
        let x11 := F_ref06_Color x8 x9 p2 p3 p4 p5 p6
        bif (x10.1 == x11.1) then
          (bif (x10.2 == x11.2) then
            (let x12 := F_mix_Value x8 x9 p2 p3 p4 p5 p6
            let x13 := F_ref06_Value x8 x9 p2 p3 p4 p5 p6
            bif (((x12.1 == x13.1) && (x12.2.1 == x13.2.1)) && ((x12.2.2.1 == x13.2.2.1) && ((x12.2.2.2.1 == x13.2.2.2.1) && (x12.2.2.2.2.1 == x13.2.2.2.2.1)))) then
              ((x12.2.2.2.2.2 == x13.2.2.2.2.2))
            else
              (false))
          else
            (false))
        else
          (false))
      else
        (false)) :=
  spellV (L := L_law08_MixAgreesForAll) (fun l => tru ((l).getD 0 undef)) (evF Tryd.prog [S_gen_Mod, S_mix_Value, S_mix_Color, S_ref06_Value, S_ref06_Color, S_law08_awake] 1000 4 (inL A_law08_MixAgreesForAll [.int .i64 p0, .int .i64 p1, .int .u16 p2, .int .u16 p3, .int .u16 p4, .int .u16 p5, .int .u16 p6, .bool p7])) (L_law08_MixAgreesForAll_is _) (by kernel_rfl)

/-! compositor/compositorlaw08.MixValueAgrees -/
def A_law08_MixValueAgrees : List PS := [.c (.i .i64), .c (.i .i64), .agg [.i .i64, .i .i64, .i .i64, .i .i64], .c (.i .i64)]
def R_law08_MixValueAgrees : RS := .one (.c (.b))
noncomputable def L_law08_MixValueAgrees : List Value → List Value := Classical.choose (veil fun vs => (evF Tryd.prog [S_gen_Mod, S_ref01_HalfExact, S_gen_Max, S_gen_Alpha, S_mix_Value, S_mix_Color, S_ref06_Value, S_law08_awake] 1000 5 (inL A_law08_MixValueAgrees vs)).outL)
theorem L_law08_MixValueAgrees_is (vs : List Value) : L_law08_MixValueAgrees vs = (evF Tryd.prog [S_gen_Mod, S_ref01_HalfExact, S_gen_Max, S_gen_Alpha, S_mix_Value, S_mix_Color, S_ref06_Value, S_law08_awake] 1000 5 (inL A_law08_MixValueAgrees vs)).outL := Classical.choose_spec (veil fun vs => (evF Tryd.prog [S_gen_Mod, S_ref01_HalfExact, S_gen_Max, S_gen_Alpha, S_mix_Value, S_mix_Color, S_ref06_Value, S_law08_awake] 1000 5 (inL A_law08_MixValueAgrees vs)).outL) vs
noncomputable def S_law08_MixValueAgrees : Sum := ⟨5, L_law08_MixValueAgrees, A_law08_MixValueAgrees, R_law08_MixValueAgrees⟩
theorem ok_law08_MixValueAgrees : SumOK Tryd.prog InvN S_law08_MixValueAgrees := sumOK_evV invN_stays (allOK_cons ok_gen_Mod.any (allOK_cons ok_ref01_HalfExact.any (allOK_cons ok_gen_Max.any (allOK_cons ok_gen_Alpha.any (allOK_cons ok_mix_Value (allOK_cons ok_mix_Color (allOK_cons ok_ref06_Value (allOK_cons ok_law08_awake allOK_nil)))))))) 1000 5 A_law08_MixValueAgrees R_law08_MixValueAgrees L_law08_MixValueAgrees_is (fun _ => by kernel_rfl)
noncomputable def F_law08_MixValueAgrees (p0 : Int) (p1 : Int) (p2 : Int) (p3 : Int) (p4 : Int) (p5 : Int) (p6 : Int) : Bool := tru ((L_law08_MixValueAgrees [.int .i64 p0, .int .i64 p1, .int .i64 p2, .int .i64 p3, .int .i64 p4, .int .i64 p5, .int .i64 p6]).getD 0 undef)
theorem F_law08_MixValueAgrees_eq (p0 : Int) (p1 : Int) (p2 : Int) (p3 : Int) (p4 : Int) (p5 : Int) (p6 : Int) : F_law08_MixValueAgrees p0 p1 p2 p3 p4 p5 p6 =
    let x0 := F_law08_awake
    bif x0 then
      (let x1 := F_gen_Mod p0 12
      let x2 := F_gen_Mod p1 12
      let x3 := F_gen_Max p6
      let x4 := F_gen_Alpha p2 p3 x3
      let x5 := F_gen_Alpha p4 p5 x3
      let x6 := F_mix_Value (IntKind.i64.wrap (1 + x1)) (IntKind.i64.wrap (1 + x2)) x3 x4.1 x4.2 x5.1 x5.2
      bif x6.2.2.2.2.2 then
        (let x7 := F_ref06_Value (IntKind.i64.wrap (1 + x1)) (IntKind.i64.wrap (1 + x2)) x3 x4.1 x4.2 x5.1 x5.2
        bif x7.2.2.2.2.2 then
          (bif (((x6.1 == x7.1) && (x6.2.1 == x7.2.1)) && ((x6.2.2.1 == x7.2.2.1) && ((x6.2.2.2.1 == x7.2.2.2.1) && (x6.2.2.2.2.1 == x7.2.2.2.2.1)))) then
            (let x8 := F_mix_Color (IntKind.i64.wrap (1 + x1)) (IntKind.i64.wrap (1 + x2)) x3 x4.1 x4.2 x5.1 x5.2
            bif x8.2 then
              (let x9 := F_ref01_HalfExact x6.1 x6.2.1 x6.2.2.1 x6.2.2.2.1 x6.2.2.2.2.1
              bif x9.2 then
                ((x8.1 == x9.1))
              else
                (false))
            else
              (false))
          else
            (false))
        else
          (false))
      else
        (false))
    else
      (false) :=
  spellV (L := L_law08_MixValueAgrees) (fun l => tru ((l).getD 0 undef)) (evF Tryd.prog [S_gen_Mod, S_ref01_HalfExact, S_gen_Max, S_gen_Alpha, S_mix_Value, S_mix_Color, S_ref06_Value, S_law08_awake] 1000 5 (inL A_law08_MixValueAgrees [.int .i64 p0, .int .i64 p1, .int .i64 p2, .int .i64 p3, .int .i64 p4, .int .i64 p5, .int .i64 p6])) (L_law08_MixValueAgrees_is _) (by kernel_rfl)

/-! compositor/compositorlaw08.MixNormalIsTheClassic -/
def A_law08_MixNormalIsTheClassic : List PS := [.agg [.i .i64, .i .i64, .i .i64, .i .i64], .c (.i .i64)]
def R_law08_MixNormalIsTheClassic : RS := .one (.c (.b))
noncomputable def L_law08_MixNormalIsTheClassic : List Value → List Value := Classical.choose (veil fun vs => (evF Tryd.prog [S_ref01_Half, S_gen_Max, S_gen_Alpha, S_mix_Color, S_law08_awake] 1000 6 (inL A_law08_MixNormalIsTheClassic vs)).outL)
theorem L_law08_MixNormalIsTheClassic_is (vs : List Value) : L_law08_MixNormalIsTheClassic vs = (evF Tryd.prog [S_ref01_Half, S_gen_Max, S_gen_Alpha, S_mix_Color, S_law08_awake] 1000 6 (inL A_law08_MixNormalIsTheClassic vs)).outL := Classical.choose_spec (veil fun vs => (evF Tryd.prog [S_ref01_Half, S_gen_Max, S_gen_Alpha, S_mix_Color, S_law08_awake] 1000 6 (inL A_law08_MixNormalIsTheClassic vs)).outL) vs
noncomputable def S_law08_MixNormalIsTheClassic : Sum := ⟨6, L_law08_MixNormalIsTheClassic, A_law08_MixNormalIsTheClassic, R_law08_MixNormalIsTheClassic⟩
theorem ok_law08_MixNormalIsTheClassic : SumOK Tryd.prog InvN S_law08_MixNormalIsTheClassic := sumOK_evV invN_stays (allOK_cons ok_ref01_Half.any (allOK_cons ok_gen_Max.any (allOK_cons ok_gen_Alpha.any (allOK_cons ok_mix_Color (allOK_cons ok_law08_awake allOK_nil))))) 1000 6 A_law08_MixNormalIsTheClassic R_law08_MixNormalIsTheClassic L_law08_MixNormalIsTheClassic_is (fun _ => by kernel_rfl)
noncomputable def F_law08_MixNormalIsTheClassic (p0 : Int) (p1 : Int) (p2 : Int) (p3 : Int) (p4 : Int) : Bool := tru ((L_law08_MixNormalIsTheClassic [.int .i64 p0, .int .i64 p1, .int .i64 p2, .int .i64 p3, .int .i64 p4]).getD 0 undef)
theorem F_law08_MixNormalIsTheClassic_eq (p0 : Int) (p1 : Int) (p2 : Int) (p3 : Int) (p4 : Int) : F_law08_MixNormalIsTheClassic p0 p1 p2 p3 p4 =
    let x0 := F_law08_awake
    bif x0 then
      (let x1 := F_gen_Max p4
      let x2 := F_gen_Alpha p0 p1 x1
      let x3 := F_gen_Alpha p2 p3 x1
      let x4 := F_mix_Color 4 1 x1 x2.1 x2.2 x3.1 x3.2
      bif x4.2 then
        (let x5 := F_ref01_Half (IntKind.u64.wrap ((IntKind.u16.wrap (x1 - x2.2)) * x3.1)) x1
        (x4.1 == (IntKind.u64.wrap (x2.1 + x5))))
      else
        (false))
    else
      (false) :=
  spellV (L := L_law08_MixNormalIsTheClassic) (fun l => tru ((l).getD 0 undef)) (evF Tryd.prog [S_ref01_Half, S_gen_Max, S_gen_Alpha, S_mix_Color, S_law08_awake] 1000 6 (inL A_law08_MixNormalIsTheClassic [.int .i64 p0, .int .i64 p1, .int .i64 p2, .int .i64 p3, .int .i64 p4])) (L_law08_MixNormalIsTheClassic_is _) (by kernel_rfl)

/-! compositor/compositorlaw08.MixIgnoresModeWithoutOverlap -/
def A_law08_MixIgnoresModeWithoutOverlap : List PS := [.c (.i .i64), .c (.i .i64), .agg [.i .i64, .i .i64], .c (.i .i64)]
def R_law08_MixIgnoresModeWithoutOverlap : RS := .one (.c (.b))
noncomputable def L_law08_MixIgnoresModeWithoutOverlap : List Value → List Value := Classical.choose (veil fun vs => (evF Tryd.prog [S_gen_Mod, S_gen_Max, S_gen_Alpha, S_mix_Color, S_law08_awake] 1000 7 (inL A_law08_MixIgnoresModeWithoutOverlap vs)).outL)
theorem L_law08_MixIgnoresModeWithoutOverlap_is (vs : List Value) : L_law08_MixIgnoresModeWithoutOverlap vs = (evF Tryd.prog [S_gen_Mod, S_gen_Max, S_gen_Alpha, S_mix_Color, S_law08_awake] 1000 7 (inL A_law08_MixIgnoresModeWithoutOverlap vs)).outL := Classical.choose_spec (veil fun vs => (evF Tryd.prog [S_gen_Mod, S_gen_Max, S_gen_Alpha, S_mix_Color, S_law08_awake] 1000 7 (inL A_law08_MixIgnoresModeWithoutOverlap vs)).outL) vs
noncomputable def S_law08_MixIgnoresModeWithoutOverlap : Sum := ⟨7, L_law08_MixIgnoresModeWithoutOverlap, A_law08_MixIgnoresModeWithoutOverlap, R_law08_MixIgnoresModeWithoutOverlap⟩
theorem ok_law08_MixIgnoresModeWithoutOverlap : SumOK Tryd.prog InvN S_law08_MixIgnoresModeWithoutOverlap := sumOK_evV invN_stays (allOK_cons ok_gen_Mod.any (allOK_cons ok_gen_Max.any (allOK_cons ok_gen_Alpha.any (allOK_cons ok_mix_Color (allOK_cons ok_law08_awake allOK_nil))))) 1000 7 A_law08_MixIgnoresModeWithoutOverlap R_law08_MixIgnoresModeWithoutOverlap L_law08_MixIgnoresModeWithoutOverlap_is (fun _ => by kernel_rfl)
noncomputable def F_law08_MixIgnoresModeWithoutOverlap (p0 : Int) (p1 : Int) (p2 : Int) (p3 : Int) (p4 : Int) : Bool := tru ((L_law08_MixIgnoresModeWithoutOverlap [.int .i64 p0, .int .i64 p1, .int .i64 p2, .int .i64 p3, .int .i64 p4]).getD 0 undef)
theorem F_law08_MixIgnoresModeWithoutOverlap_eq (p0 : Int) (p1 : Int) (p2 : Int) (p3 : Int) (p4 : Int) : F_law08_MixIgnoresModeWithoutOverlap p0 p1 p2 p3 p4 =
    let x0 := F_law08_awake
    bif x0 then
      (let x1 := F_gen_Mod p0 12
      let x2 := F_gen_Mod p1 12
      let x3 := F_gen_Max p4
      let x4 := F_gen_Alpha p2 p3 x3
      let x5 := F_mix_Color (IntKind.i64.wrap (1 + x1)) (IntKind.i64.wrap (1 + x2)) x3 x4.1 x4.2 0 0
      bif x5.2 then
        (let x6 := F_mix_Color (IntKind.i64.wrap (1 + x1)) 1 x3 x4.1 x4.2 0 0
        bif x6.2 then
          (let x7 := F_mix_Color (IntKind.i64.wrap (1 + x1)) (IntKind.i64.wrap (1 + x2)) x3 0 0 x4.1 x4.2
          bif x7.2 then
            (let x8 := F_mix_Color (IntKind.i64.wrap (1 + x1)) 1 x3 0 0 x4.1 x4.2
            bif x8.2 then
              (bif (x5.1 == x6.1) then
                ((x7.1 == x8.1))
              else
                (false))
            else
              (false))
          else
            (false))
        else
          (false))
      else
        (false))
    else
      (false) :=
  spellV (L := L_law08_MixIgnoresModeWithoutOverlap) (fun l => tru ((l).getD 0 undef)) (evF Tryd.prog [S_gen_Mod, S_gen_Max, S_gen_Alpha, S_mix_Color, S_law08_awake] 1000 7 (inL A_law08_MixIgnoresModeWithoutOverlap [.int .i64 p0, .int .i64 p1, .int .i64 p2, .int .i64 p3, .int .i64 p4])) (L_law08_MixIgnoresModeWithoutOverlap_is _) (by kernel_rfl)

/-! compositor/compositorlaw08.MixOfOpaqueColours -/
def A_law08_MixOfOpaqueColours : List PS := [.c (.i .i64), .c (.i .i64), .c (.i .u16), .c (.i .u16), .c (.i .i64)]
def R_law08_MixOfOpaqueColours : RS := .one (.c (.b))
noncomputable def L_law08_MixOfOpaqueColours : List Value → List Value := Classical.choose (veil fun vs => (evF Tryd.prog [S_gen_Mod, S_gen_Max, S_blend_Straight, S_mix_Color, S_law08_awake] 1000 8 (inL A_law08_MixOfOpaqueColours vs)).outL)
theorem L_law08_MixOfOpaqueColours_is (vs : List Value) : L_law08_MixOfOpaqueColours vs = (evF Tryd.prog [S_gen_Mod, S_gen_Max, S_blend_Straight, S_mix_Color, S_law08_awake] 1000 8 (inL A_law08_MixOfOpaqueColours vs)).outL := Classical.choose_spec (veil fun vs => (evF Tryd.prog [S_gen_Mod, S_gen_Max, S_blend_Straight, S_mix_Color, S_law08_awake] 1000 8 (inL A_law08_MixOfOpaqueColours vs)).outL) vs
noncomputable def S_law08_MixOfOpaqueColours : Sum := ⟨8, L_law08_MixOfOpaqueColours, A_law08_MixOfOpaqueColours, R_law08_MixOfOpaqueColours⟩
theorem okB_law08_MixOfOpaqueColours (p0 : Int) (p1 : Int) (p2 : Int) (p3 : Int) (p4 : Int) : (evF Tryd.prog [S_gen_Mod, S_gen_Max, S_blend_Straight, S_mix_Color, S_law08_awake] 1000 8 (inL A_law08_MixOfOpaqueColours [.int .i64 p0, .int .i64 p1, .int .u16 p2, .int .u16 p3, .int .i64 p4])).ok =
    let x0 := F_gen_Mod p0 4
    bif (x0 == 0) then
      (bif (x0 == 0) then
        (true)
      else
        (bif (x0 == 1) then
          (true)
        else
          (bif (x0 == 2) then
            (true)
          else
            (bif (x0 == 3) then
              (true)
            else
              (false)))))
    else
      (bif (x0 == 1) then
        (bif (x0 == 0) then
          (true)
        else
          (bif (x0 == 1) then
            (true)
          else
            (bif (x0 == 2) then
              (true)
            else
              (bif (x0 == 3) then
                (true)
              else
                (false)))))
      else
        (bif (x0 == 2) then
          (bif (x0 == 0) then
            (true)
          else
            (bif (x0 == 1) then
              (true)
            else
              (bif (x0 == 2) then
                (true)
              else
                (bif (x0 == 3) then
                  (true)
                else
                  (false)))))
        else
          (bif (x0 == 3) then
            (bif (x0 == 0) then
              (true)
            else
              (bif (x0 == 1) then
                (true)
              else
                (bif (x0 == 2) then
                  (true)
                else
                  (bif (x0 == 3) then
                    (true)
                  else
                    (false)))))
          else
            (false)))) := (okR_eq _).trans (by kernel_rfl)
theorem okA_law08_MixOfOpaqueColours (h : ∀ p0 p1 p2 p3 p4 , IntKind.i64.min ≤ p0 → p0 ≤ IntKind.i64.max → IntKind.i64.min ≤ p1 → p1 ≤ IntKind.i64.max → IntKind.u16.min ≤ p2 → p2 ≤ IntKind.u16.max → IntKind.u16.min ≤ p3 → p3 ≤ IntKind.u16.max → IntKind.i64.min ≤ p4 → p4 ≤ IntKind.i64.max → (evF Tryd.prog [S_gen_Mod, S_gen_Max, S_blend_Straight, S_mix_Color, S_law08_awake] 1000 8 (inL A_law08_MixOfOpaqueColours [.int .i64 p0, .int .i64 p1, .int .u16 p2, .int .u16 p3, .int .i64 p4])).ok = true) : SumOK Tryd.prog InvN S_law08_MixOfOpaqueColours := sumOK_partV invN_stays (allOK_cons ok_gen_Mod.any (allOK_cons ok_gen_Max.any (allOK_cons ok_blend_Straight.any (allOK_cons ok_mix_Color (allOK_cons ok_law08_awake allOK_nil))))) 1000 8 A_law08_MixOfOpaqueColours R_law08_MixOfOpaqueColours L_law08_MixOfOpaqueColours_is (fun _ => by kernel_rfl) (fun vs hk => by
  obtain ⟨_, _, rfl, ⟨p0, rfl, p0lo, p0hi⟩, _, _, rfl, ⟨p1, rfl, p1lo, p1hi⟩, _, _, rfl, ⟨p2, rfl, p2lo, p2hi⟩, _, _, rfl, ⟨p3, rfl, p3lo, p3hi⟩, _, _, rfl, ⟨p4, rfl, p4lo, p4hi⟩, rfl⟩ := hk
  exact h p0 p1 p2 p3 p4 p0lo p0hi p1lo p1hi p2lo p2hi p3lo p3hi p4lo p4hi )
theorem ok_law08_MixOfOpaqueColours : SumOK Tryd.prog InvN S_law08_MixOfOpaqueColours := okA_law08_MixOfOpaqueColours (by
  intro p0 p1 p2 p3 p4
  intros
  rw [okB_law08_MixOfOpaqueColours]
  simp only [gMod (x := p0) (n := 4) (by decide) (by decide)]
  have e0 : p0 % 4 = 0 ∨ p0 % 4 = 1 ∨ p0 % 4 = 2 ∨ p0 % 4 = 3 := by omega
  rcases e0 with h | h | h | h <;> rw [h] <;> rfl)
noncomputable def F_law08_MixOfOpaqueColours (p0 : Int) (p1 : Int) (p2 : Int) (p3 : Int) (p4 : Int) : Bool := tru ((L_law08_MixOfOpaqueColours [.int .i64 p0, .int .i64 p1, .int .u16 p2, .int .u16 p3, .int .i64 p4]).getD 0 undef)
theorem F_law08_MixOfOpaqueColours_eq (p0 : Int) (p1 : Int) (p2 : Int) (p3 : Int) (p4 : Int) : F_law08_MixOfOpaqueColours p0 p1 p2 p3 p4 =
    let x0 := F_gen_Mod p0 4
    bif (x0 == 0) then
      (bif (x0 == 0) then
        (let x1 := F_law08_awake
        bif x1 then
          (let x2 := F_gen_Mod p1 12
          let x3 := F_gen_Max p4
          let x4 := F_gen_Mod p2 (IntKind.i64.wrap (x3 + 1))
          let x5 := F_gen_Mod p3 (IntKind.i64.wrap (x3 + 1))
          let x6 := F_mix_Color 4 (IntKind.i64.wrap (1 + x2)) x3 (IntKind.u16.wrap x4) x3 (IntKind.u16.wrap x5) x3
          bif x6.2 then
            (let x7 := F_blend_Straight (IntKind.i64.wrap (1 + x2)) (IntKind.u16.wrap x4) (IntKind.u16.wrap x5) x3
            bif x7.2 then
              (let x8 := F_mix_Color 3 (IntKind.i64.wrap (1 + x2)) x3 (IntKind.u16.wrap x4) x3 (IntKind.u16.wrap x5) x3
              bif x8.2 then
                (bif (x6.1 == x7.1) then
                  ((x8.1 == (IntKind.u16.wrap x5)))
                else
                  (false))
              else
                (false))
            else
              (false))
          else
            (false))
        else
          (false))
      else
        (bif (x0 == 1) then
          (let x9 := F_law08_awake
          bif x9 then
            (let x10 := F_gen_Mod p1 12
            let x11 := F_gen_Max p4
            let x12 := F_gen_Mod p2 (IntKind.i64.wrap (x11 + 1))
            let x13 := F_gen_Mod p3 (IntKind.i64.wrap (x11 + 1))
            let x14 := F_mix_Color 4 (IntKind.i64.wrap (1 + x10)) x11 (IntKind.u16.wrap x12) x11 (IntKind.u16.wrap x13) x11
            bif x14.2 then
              (let x15 := F_blend_Straight (IntKind.i64.wrap (1 + x10)) (IntKind.u16.wrap x12) (IntKind.u16.wrap x13) x11
              bif x15.2 then
                (let x16 := F_mix_Color 5 (IntKind.i64.wrap (1 + x10)) x11 (IntKind.u16.wrap x12) x11 (IntKind.u16.wrap x13) x11
                bif x16.2 then
                  (bif (x14.1 == x15.1) then
                    ((x16.1 == (IntKind.u16.wrap x13)))
                  else
                    (false))
                else
                  (false))
              else
                (false))
            else
              (false))
          else
            (false))
        else
          (bif (x0 == 2) then
            (let x17 := F_law08_awake
            bif x17 then
              (let x18 := F_gen_Mod p1 12
              let x19 := F_gen_Max p4
              let x20 := F_gen_Mod p2 (IntKind.i64.wrap (x19 + 1))
              let x21 := F_gen_Mod p3 (IntKind.i64.wrap (x19 + 1))
              let x22 := F_mix_Color 4 (IntKind.i64.wrap (1 + x18)) x19 (IntKind.u16.wrap x20) x19 (IntKind.u16.wrap x21) x19
              bif x22.2 then
                (let x23 := F_blend_Straight (IntKind.i64.wrap (1 + x18)) (IntKind.u16.wrap x20) (IntKind.u16.wrap x21) x19
                bif x23.2 then
                  (let x24 := F_mix_Color 7 (IntKind.i64.wrap (1 + x18)) x19 (IntKind.u16.wrap x20) x19 (IntKind.u16.wrap x21) x19
                  bif x24.2 then
                    (bif (x22.1 == x23.1) then
                      ((x24.1 == (IntKind.u16.wrap x21)))
                    else
                      (false))
                  else
                    (false))
                else
                  (false))
              else
                (false))
            else
              (false))
          else
            (bif (x0 == 3) then
              (let x25 := F_law08_awake
              bif x25 then
                (let x26 := F_gen_Mod p1 12
                let x27 := F_gen_Max p4
                let x28 := F_gen_Mod p2 (IntKind.i64.wrap (x27 + 1))
                let x29 := F_gen_Mod p3 (IntKind.i64.wrap (x27 + 1))
                let x30 := F_mix_Color 4 (IntKind.i64.wrap (1 + x26)) x27 (IntKind.u16.wrap x28) x27 (IntKind.u16.wrap x29) x27
                bif x30.2 then
                  (let x31 := F_blend_Straight (IntKind.i64.wrap (1 + x26)) (IntKind.u16.wrap x28) (IntKind.u16.wrap x29) x27
                  bif x31.2 then
                    (let x32 := F_mix_Color 11 (IntKind.i64.wrap (1 + x26)) x27 (IntKind.u16.wrap x28) x27 (IntKind.u16.wrap x29) x27
                    bif x32.2 then
                      (bif (x30.1 == x31.1) then
                        ((x32.1 == (IntKind.u16.wrap x29)))
                      else
                        (false))
                    else
                      (false))
                  else
                    (false))
                else
                  (false))
              else
                (false))
            else
              ((tru undef))))))
    else
      (bif (x0 == 1) then
        (bif (x0 == 0) then
          (let x33 := F_law08_awake
          bif x33 then
            (let x34 := F_gen_Mod p1 12
            let x35 := F_gen_Max p4
            let x36 := F_gen_Mod p2 (IntKind.i64.wrap (x35 + 1))
            let x37 := F_gen_Mod p3 (IntKind.i64.wrap (x35 + 1))
            let x38 := F_mix_Color 6 (IntKind.i64.wrap (1 + x34)) x35 (IntKind.u16.wrap x36) x35 (IntKind.u16.wrap x37) x35
            bif x38.2 then
              (let x39 := F_blend_Straight (IntKind.i64.wrap (1 + x34)) (IntKind.u16.wrap x36) (IntKind.u16.wrap x37) x35
              bif x39.2 then
                (let x40 := F_mix_Color 3 (IntKind.i64.wrap (1 + x34)) x35 (IntKind.u16.wrap x36) x35 (IntKind.u16.wrap x37) x35
                bif x40.2 then
                  (bif (x38.1 == x39.1) then
                    ((x40.1 == (IntKind.u16.wrap x37)))
                  else
                    (false))
                else
                  (false))
              else
                (false))
            else
              (false))
          else
            (false))
        else
          (bif (x0 == 1) then
            (let x41 := F_law08_awake
            bif x41 then
              (let x42 := F_gen_Mod p1 12
              let x43 := F_gen_Max p4
              let x44 := F_gen_Mod p2 (IntKind.i64.wrap (x43 + 1))
              let x45 := F_gen_Mod p3 (IntKind.i64.wrap (x43 + 1))
              let x46 := F_mix_Color 6 (IntKind.i64.wrap (1 + x42)) x43 (IntKind.u16.wrap x44) x43 (IntKind.u16.wrap x45) x43
              bif x46.2 then
                (let x47 := F_blend_Straight (IntKind.i64.wrap (1 + x42)) (IntKind.u16.wrap x44) (IntKind.u16.wrap x45) x43
                bif x47.2 then
                  (let x48 := F_mix_Color 5 (IntKind.i64.wrap (1 + x42)) x43 (IntKind.u16.wrap x44) x43 (IntKind.u16.wrap x45) x43
                  bif x48.2 then
                    (bif (x46.1 == x47.1) then
                      ((x48.1 == (IntKind.u16.wrap x45)))
                    else
                      (false))
                  else
                    (false))
                else
                  (false))
              else
                (false))
            else
              (false))
          else
            (bif (x0 == 2) then
              (let x49 := F_law08_awake
              bif x49 then
                (let x50 := F_gen_Mod p1 12
                let x51 := F_gen_Max p4
                let x52 := F_gen_Mod p2 (IntKind.i64.wrap (x51 + 1))
                let x53 := F_gen_Mod p3 (IntKind.i64.wrap (x51 + 1))
                let x54 := F_mix_Color 6 (IntKind.i64.wrap (1 + x50)) x51 (IntKind.u16.wrap x52) x51 (IntKind.u16.wrap x53) x51
                bif x54.2 then
                  (let x55 := F_blend_Straight (IntKind.i64.wrap (1 + x50)) (IntKind.u16.wrap x52) (IntKind.u16.wrap x53) x51
                  bif x55.2 then
                    (let x56 := F_mix_Color 7 (IntKind.i64.wrap (1 + x50)) x51 (IntKind.u16.wrap x52) x51 (IntKind.u16.wrap x53) x51
                    bif x56.2 then
                      (bif (x54.1 == x55.1) then
                        ((x56.1 == (IntKind.u16.wrap x53)))
                      else
                        (false))
                    else
                      (false))
                  else
                    (false))
                else
                  (false))
              else
                (false))
            else
              (bif (x0 == 3) then
                (let x57 := F_law08_awake
                bif x57 then
                  (let x58 := F_gen_Mod p1 12
                  let x59 := F_gen_Max p4
                  let x60 := F_gen_Mod p2 (IntKind.i64.wrap (x59 + 1))
                  let x61 := F_gen_Mod p3 (IntKind.i64.wrap (x59 + 1))
                  let x62 := F_mix_Color 6 (IntKind.i64.wrap (1 + x58)) x59 (IntKind.u16.wrap x60) x59 (IntKind.u16.wrap x61) x59
                  bif x62.2 then
                    (let x63 := F_blend_Straight (IntKind.i64.wrap (1 + x58)) (IntKind.u16.wrap x60) (IntKind.u16.wrap x61) x59
                    bif x63.2 then
                      (let x64 := F_mix_Color 11 (IntKind.i64.wrap (1 + x58)) x59 (IntKind.u16.wrap x60) x59 (IntKind.u16.wrap x61) x59
                      bif x64.2 then
                        (bif (x62.1 == x63.1) then
                          ((x64.1 == (IntKind.u16.wrap x61)))
                        else
                          (false))
                      else
                        (false))
                    else
                      (false))
                  else
                    (false))
                else
                  (false))
              else
                ((tru undef))))))
      else
        (bif (x0 == 2) then
          (bif (x0 == 0) then
            (let x65 := F_law08_awake
            bif x65 then
              (let x66 := F_gen_Mod p1 12
              let x67 := F_gen_Max p4
              let x68 := F_gen_Mod p2 (IntKind.i64.wrap (x67 + 1))
              let x69 := F_gen_Mod p3 (IntKind.i64.wrap (x67 + 1))
              let x70 := F_mix_Color 10 (IntKind.i64.wrap (1 + x66)) x67 (IntKind.u16.wrap x68) x67 (IntKind.u16.wrap x69) x67
              bif x70.2 then
                (let x71 := F_blend_Straight (IntKind.i64.wrap (1 + x66)) (IntKind.u16.wrap x68) (IntKind.u16.wrap x69) x67
                bif x71.2 then
                  (let x72 := F_mix_Color 3 (IntKind.i64.wrap (1 + x66)) x67 (IntKind.u16.wrap x68) x67 (IntKind.u16.wrap x69) x67
                  bif x72.2 then
                    (bif (x70.1 == x71.1) then
                      ((x72.1 == (IntKind.u16.wrap x69)))
                    else
                      (false))
                  else
                    (false))
                else
                  (false))
              else
                (false))
            else
              (false))
          else
            (bif (x0 == 1) then
              (let x73 := F_law08_awake
              bif x73 then
                (let x74 := F_gen_Mod p1 12
                let x75 := F_gen_Max p4
                let x76 := F_gen_Mod p2 (IntKind.i64.wrap (x75 + 1))
                let x77 := F_gen_Mod p3 (IntKind.i64.wrap (x75 + 1))
                let x78 := F_mix_Color 10 (IntKind.i64.wrap (1 + x74)) x75 (IntKind.u16.wrap x76) x75 (IntKind.u16.wrap x77) x75
                bif x78.2 then
                  (let x79 := F_blend_Straight (IntKind.i64.wrap (1 + x74)) (IntKind.u16.wrap x76) (IntKind.u16.wrap x77) x75
                  bif x79.2 then
                    (let x80 := F_mix_Color 5 (IntKind.i64.wrap (1 + x74)) x75 (IntKind.u16.wrap x76) x75 (IntKind.u16.wrap x77) x75
                    bif x80.2 then
                      (bif (x78.1 == x79.1) then
                        ((x80.1 == (IntKind.u16.wrap x77)))
                      else
                        (false))
                    else
                      (false))
                  else
                    (false))
                else
                  (false))
              else
                (false))
            else
              (bif (x0 == 2) then
                (let x81 := F_law08_awake
                bif x81 then
                  (let x82 := F_gen_Mod p1 12
                  let x83 := F_gen_Max p4
                  let x84 := F_gen_Mod p2 (IntKind.i64.wrap (x83 + 1))
                  let x85 := F_gen_Mod p3 (IntKind.i64.wrap (x83 + 1))
                  let x86 := F_mix_Color 10 (IntKind.i64.wrap (1 + x82)) x83 (IntKind.u16.wrap x84) x83 (IntKind.u16.wrap x85) x83
                  bif x86.2 then
                    (let x87 := F_blend_Straight (IntKind.i64.wrap (1 + x82)) (IntKind.u16.wrap x84) (IntKind.u16.wrap x85) x83
                    bif x87.2 then
                      (let x88 := F_mix_Color 7 (IntKind.i64.wrap (1 + x82)) x83 (IntKind.u16.wrap x84) x83 (IntKind.u16.wrap x85) x83
                      bif x88.2 then
                        (bif (x86.1 == x87.1) then
                          ((x88.1 == (IntKind.u16.wrap x85)))
                        else
                          (false))
                      else
                        (false))
                    else
                      (false))
                  else
                    (false))
                else
                  (false))
              else
                (bif (x0 == 3) then
                  (let x89 := F_law08_awake
                  bif x89 then
                    (let x90 := F_gen_Mod p1 12
                    let x91 := F_gen_Max p4
                    let x92 := F_gen_Mod p2 (IntKind.i64.wrap (x91 + 1))
                    let x93 := F_gen_Mod p3 (IntKind.i64.wrap (x91 + 1))
                    let x94 := F_mix_Color 10 (IntKind.i64.wrap (1 + x90)) x91 (IntKind.u16.wrap x92) x91 (IntKind.u16.wrap x93) x91
                    bif x94.2 then
                      (let x95 := F_blend_Straight (IntKind.i64.wrap (1 + x90)) (IntKind.u16.wrap x92) (IntKind.u16.wrap x93) x91
                      bif x95.2 then
                        (let x96 := F_mix_Color 11 (IntKind.i64.wrap (1 + x90)) x91 (IntKind.u16.wrap x92) x91 (IntKind.u16.wrap x93) x91
                        bif x96.2 then
                          (bif (x94.1 == x95.1) then
                            ((x96.1 == (IntKind.u16.wrap x93)))
                          else
                            (false))
                        else
                          (false))
                      else
                        (false))
                    else
                      (false))
                  else
                    (false))
                else
                  ((tru undef))))))
        else
          (bif (x0 == 3) then
            (bif (x0 == 0) then
              (let x97 := F_law08_awake
              bif x97 then
                (let x98 := F_gen_Mod p1 12
                let x99 := F_gen_Max p4
                let x100 := F_gen_Mod p2 (IntKind.i64.wrap (x99 + 1))
                let x101 := F_gen_Mod p3 (IntKind.i64.wrap (x99 + 1))
                let x102 := F_mix_Color 2 (IntKind.i64.wrap (1 + x98)) x99 (IntKind.u16.wrap x100) x99 (IntKind.u16.wrap x101) x99
                bif x102.2 then
                  (let x103 := F_blend_Straight (IntKind.i64.wrap (1 + x98)) (IntKind.u16.wrap x100) (IntKind.u16.wrap x101) x99
                  bif x103.2 then
                    (let x104 := F_mix_Color 3 (IntKind.i64.wrap (1 + x98)) x99 (IntKind.u16.wrap x100) x99 (IntKind.u16.wrap x101) x99
                    bif x104.2 then
                      (bif (x102.1 == x103.1) then
                        ((x104.1 == (IntKind.u16.wrap x101)))
                      else
                        (false))
                    else
                      (false))
                  else
                    (false))
                else
                  (false))
              else
                (false))
            else
              (bif (x0 == 1) then
                (let x105 := F_law08_awake
                bif x105 then
                  (let x106 := F_gen_Mod p1 12
                  let x107 := F_gen_Max p4
                  let x108 := F_gen_Mod p2 (IntKind.i64.wrap (x107 + 1))
                  let x109 := F_gen_Mod p3 (IntKind.i64.wrap (x107 + 1))
                  let x110 := F_mix_Color 2 (IntKind.i64.wrap (1 + x106)) x107 (IntKind.u16.wrap x108) x107 (IntKind.u16.wrap x109) x107
                  bif x110.2 then
                    (let x111 := F_blend_Straight (IntKind.i64.wrap (1 + x106)) (IntKind.u16.wrap x108) (IntKind.u16.wrap x109) x107
                    bif x111.2 then
                      (let x112 := F_mix_Color 5 (IntKind.i64.wrap (1 + x106)) x107 (IntKind.u16.wrap x108) x107 (IntKind.u16.wrap x109) x107
                      bif x112.2 then
                        (bif (x110.1 == x111.1) then
                          ((x112.1 == (IntKind.u16.wrap x109)))
                        else
                          (false))
                      else
                        (false))
                    else
                      (false))
                  else
                    (false))
                else
                  (false))
              else
                (bif (x0 == 2) then
                  (let x113 := F_law08_awake
                  bif x113 then
                    (let x114 := F_gen_Mod p1 12
                    let x115 := F_gen_Max p4
                    let x116 := F_gen_Mod p2 (IntKind.i64.wrap (x115 + 1))
                    let x117 := F_gen_Mod p3 (IntKind.i64.wrap (x115 + 1))
                    let x118 := F_mix_Color 2 (IntKind.i64.wrap (1 + x114)) x115 (IntKind.u16.wrap x116) x115 (IntKind.u16.wrap x117) x115
                    bif x118.2 then
                      (let x119 := F_blend_Straight (IntKind.i64.wrap (1 + x114)) (IntKind.u16.wrap x116) (IntKind.u16.wrap x117) x115
                      bif x119.2 then
                        (let x120 := F_mix_Color 7 (IntKind.i64.wrap (1 + x114)) x115 (IntKind.u16.wrap x116) x115 (IntKind.u16.wrap x117) x115
                        bif x120.2 then
                          (bif (x118.1 == x119.1) then
                            ((x120.1 == (IntKind.u16.wrap x117)))
                          else
                            (false))
                        else
                          (false))
                      else
                        (false))
                    else
                      (false))
                  else
                    (false))
                else
                  (bif (x0 == 3) then
                    (let x121 := F_law08_awake
                    bif x121 then
                      (let x122 := F_gen_Mod p1 12
                      let x123 := F_gen_Max p4
                      let x124 := F_gen_Mod p2 (IntKind.i64.wrap (x123 + 1))
                      let x125 := F_gen_Mod p3 (IntKind.i64.wrap (x123 + 1))
                      let x126 := F_mix_Color 2 (IntKind.i64.wrap (1 + x122)) x123 (IntKind.u16.wrap x124) x123 (IntKind.u16.wrap x125) x123
                      bif x126.2 then
                        (let x127 := F_blend_Straight (IntKind.i64.wrap (1 + x122)) (IntKind.u16.wrap x124) (IntKind.u16.wrap x125) x123
                        bif x127.2 then
                          (let x128 := F_mix_Color 11 (IntKind.i64.wrap (1 + x122)) x123 (IntKind.u16.wrap x124) x123 (IntKind.u16.wrap x125) x123
                          bif x128.2 then
                            (bif (x126.1 == x127.1) then
                              ((x128.1 == (IntKind.u16.wrap x125)))
                            else
                              (false))
                          else
                            (false))
                        else
                          (false))
                      else
                        (false))
                    else
                      (false))
                  else
                    ((tru undef))))))
          else
            ((tru undef))))) :=
  spellV (L := L_law08_MixOfOpaqueColours) (fun l => tru ((l).getD 0 undef)) (evF Tryd.prog [S_gen_Mod, S_gen_Max, S_blend_Straight, S_mix_Color, S_law08_awake] 1000 8 (inL A_law08_MixOfOpaqueColours [.int .i64 p0, .int .i64 p1, .int .u16 p2, .int .u16 p3, .int .i64 p4])) (L_law08_MixOfOpaqueColours_is _) (by kernel_rfl)

/-! compositor/compositorlaw08.MixColourBelowAlpha -/
def A_law08_MixColourBelowAlpha : List PS := [.c (.i .i64), .c (.i .i64), .agg [.i .i64, .i .i64, .i .i64, .i .i64], .c (.i .i64)]
def R_law08_MixColourBelowAlpha : RS := .one (.c (.b))
noncomputable def L_law08_MixColourBelowAlpha : List Value → List Value := Classical.choose (veil fun vs => (evF Tryd.prog [S_gen_Mod, S_gen_Max, S_gen_Alpha, S_operator_Alpha, S_mix_Color, S_law08_awake] 1000 10 (inL A_law08_MixColourBelowAlpha vs)).outL)
theorem L_law08_MixColourBelowAlpha_is (vs : List Value) : L_law08_MixColourBelowAlpha vs = (evF Tryd.prog [S_gen_Mod, S_gen_Max, S_gen_Alpha, S_operator_Alpha, S_mix_Color, S_law08_awake] 1000 10 (inL A_law08_MixColourBelowAlpha vs)).outL := Classical.choose_spec (veil fun vs => (evF Tryd.prog [S_gen_Mod, S_gen_Max, S_gen_Alpha, S_operator_Alpha, S_mix_Color, S_law08_awake] 1000 10 (inL A_law08_MixColourBelowAlpha vs)).outL) vs
noncomputable def S_law08_MixColourBelowAlpha : Sum := ⟨10, L_law08_MixColourBelowAlpha, A_law08_MixColourBelowAlpha, R_law08_MixColourBelowAlpha⟩
theorem ok_law08_MixColourBelowAlpha : SumOK Tryd.prog InvN S_law08_MixColourBelowAlpha := sumOK_evV invN_stays (allOK_cons ok_gen_Mod.any (allOK_cons ok_gen_Max.any (allOK_cons ok_gen_Alpha.any (allOK_cons ok_operator_Alpha (allOK_cons ok_mix_Color (allOK_cons ok_law08_awake allOK_nil)))))) 1000 10 A_law08_MixColourBelowAlpha R_law08_MixColourBelowAlpha L_law08_MixColourBelowAlpha_is (fun _ => by kernel_rfl)
noncomputable def F_law08_MixColourBelowAlpha (p0 : Int) (p1 : Int) (p2 : Int) (p3 : Int) (p4 : Int) (p5 : Int) (p6 : Int) : Bool := tru ((L_law08_MixColourBelowAlpha [.int .i64 p0, .int .i64 p1, .int .i64 p2, .int .i64 p3, .int .i64 p4, .int .i64 p5, .int .i64 p6]).getD 0 undef)
theorem F_law08_MixColourBelowAlpha_eq (p0 : Int) (p1 : Int) (p2 : Int) (p3 : Int) (p4 : Int) (p5 : Int) (p6 : Int) : F_law08_MixColourBelowAlpha p0 p1 p2 p3 p4 p5 p6 =
    let x0 := F_law08_awake
    bif x0 then
      (let x1 := F_gen_Mod p0 12
      let x2 := F_gen_Mod p1 12
      let x3 := F_gen_Max p6
      let x4 := F_gen_Alpha p2 p3 x3
      let x5 := F_gen_Alpha p4 p5 x3
      let x6 := F_mix_Color (IntKind.i64.wrap (1 + x1)) (IntKind.i64.wrap (1 + x2)) x3 x4.1 x4.2 x5.1 x5.2
      bif x6.2 then
        (let x7 := F_operator_Alpha (IntKind.i64.wrap (1 + x1)) x4.2 x5.2 x3
        (decide (x6.1 ≤ x7)))
      else
        (false))
    else
      (false) :=
  spellV (L := L_law08_MixColourBelowAlpha) (fun l => tru ((l).getD 0 undef)) (evF Tryd.prog [S_gen_Mod, S_gen_Max, S_gen_Alpha, S_operator_Alpha, S_mix_Color, S_law08_awake] 1000 10 (inL A_law08_MixColourBelowAlpha [.int .i64 p0, .int .i64 p1, .int .i64 p2, .int .i64 p3, .int .i64 p4, .int .i64 p5, .int .i64 p6])) (L_law08_MixColourBelowAlpha_is _) (by kernel_rfl)

/-! compositor/compositorlaw10.KnockoutKeepsOrder -/
def A_law10_KnockoutKeepsOrder : List PS := [.c (.i .i64), .agg [.i .i64, .i .i64, .i .i64], .agg [.i .i64, .i .i64, .i .i64], .agg [.i .i64, .i .i64], .c (.i .i64)]
def R_law10_KnockoutKeepsOrder : RS := .one (.c (.b))
noncomputable def L_law10_KnockoutKeepsOrder : List Value → List Value := Classical.choose (veil fun vs => (evF Tryd.prog [S_gen_Mod, S_gen_Max, S_gen_Sample, S_gen_Alpha, S_knockout_Color, S_knockout_Alpha, S_knockout_Own, S_law10_source, S_law10_awake, S_operator_Shape] 1000 9 (inL A_law10_KnockoutKeepsOrder vs)).outL)
theorem L_law10_KnockoutKeepsOrder_is (vs : List Value) : L_law10_KnockoutKeepsOrder vs = (evF Tryd.prog [S_gen_Mod, S_gen_Max, S_gen_Sample, S_gen_Alpha, S_knockout_Color, S_knockout_Alpha, S_knockout_Own, S_law10_source, S_law10_awake, S_operator_Shape] 1000 9 (inL A_law10_KnockoutKeepsOrder vs)).outL := Classical.choose_spec (veil fun vs => (evF Tryd.prog [S_gen_Mod, S_gen_Max, S_gen_Sample, S_gen_Alpha, S_knockout_Color, S_knockout_Alpha, S_knockout_Own, S_law10_source, S_law10_awake, S_operator_Shape] 1000 9 (inL A_law10_KnockoutKeepsOrder vs)).outL) vs
noncomputable def S_law10_KnockoutKeepsOrder : Sum := ⟨9, L_law10_KnockoutKeepsOrder, A_law10_KnockoutKeepsOrder, R_law10_KnockoutKeepsOrder⟩
theorem ok_law10_KnockoutKeepsOrder : SumOK Tryd.prog InvN S_law10_KnockoutKeepsOrder := sumOK_evV invN_stays (allOK_cons ok_gen_Mod.any (allOK_cons ok_gen_Max.any (allOK_cons ok_gen_Sample.any (allOK_cons ok_gen_Alpha.any (allOK_cons ok_knockout_Color.any (allOK_cons ok_knockout_Alpha.any (allOK_cons ok_knockout_Own.any (allOK_cons ok_law10_source.any (allOK_cons ok_law10_awake.any (allOK_cons ok_operator_Shape allOK_nil)))))))))) 1000 9 A_law10_KnockoutKeepsOrder R_law10_KnockoutKeepsOrder L_law10_KnockoutKeepsOrder_is (fun _ => by kernel_rfl)
noncomputable def F_law10_KnockoutKeepsOrder (p0 : Int) (p1 : Int) (p2 : Int) (p3 : Int) (p4 : Int) (p5 : Int) (p6 : Int) (p7 : Int) (p8 : Int) (p9 : Int) : Bool := tru ((L_law10_KnockoutKeepsOrder [.int .i64 p0, .int .i64 p1, .int .i64 p2, .int .i64 p3, .int .i64 p4, .int .i64 p5, .int .i64 p6, .int .i64 p7, .int .i64 p8, .int .i64 p9]).getD 0 undef)
theorem F_law10_KnockoutKeepsOrder_eq (p0 : Int) (p1 : Int) (p2 : Int) (p3 : Int) (p4 : Int) (p5 : Int) (p6 : Int) (p7 : Int) (p8 : Int) (p9 : Int) : F_law10_KnockoutKeepsOrder p0 p1 p2 p3 p4 p5 p6 p7 p8 p9 =
    let x0 := F_law10_awake
    bif x0 then
      (let x1 := F_gen_Mod p0 12
      let x2 := F_gen_Max p9
      let x3 := F_law10_source p1 p2 p3 x2
      let x4 := F_gen_Sample p5 x2
      let x5 := F_gen_Sample p4 x4
      let x6 := F_gen_Alpha p7 p8 x2
      let x7 := F_knockout_Color (IntKind.i64.wrap (1 + x1)) x2 x3.1 x3.2.1 x3.2.2 x5 x6.1 x6.2
      bif x7.2 then
        (let x8 := F_knockout_Alpha x2 x3.2.1 x3.2.2 x4 x6.2
        bif x8.2 then
          (let x9 := F_gen_Sample p6 x2
          let x10 := F_knockout_Own x2 x3.2.1 x3.2.2 (if x9 < x4 then x9 else x4)
          bif x10.2 then
            (bif (decide (x7.1 ≤ x8.1)) then
              (bif (decide (x10.1 ≤ x8.1)) then
                (let x11 := F_operator_Shape 4 x3.2.2 x9 x2
                bif (decide (x10.1 ≤ x11)) then
                  ((decide (x8.1 ≤ x2)))
                else
                  (false))
              else
                (false))
            else
              (false))
          else
            (false))
        else
          (false))
      else
        (false))
    else
      (false) :=
  spellV (L := L_law10_KnockoutKeepsOrder) (fun l => tru ((l).getD 0 undef)) (evF Tryd.prog [S_gen_Mod, S_gen_Max, S_gen_Sample, S_gen_Alpha, S_knockout_Color, S_knockout_Alpha, S_knockout_Own, S_law10_source, S_law10_awake, S_operator_Shape] 1000 9 (inL A_law10_KnockoutKeepsOrder [.int .i64 p0, .int .i64 p1, .int .i64 p2, .int .i64 p3, .int .i64 p4, .int .i64 p5, .int .i64 p6, .int .i64 p7, .int .i64 p8, .int .i64 p9])) (L_law10_KnockoutKeepsOrder_is _) (by kernel_rfl)

/-! compositor/compositorlaw10.KnockoutOfTheFirst -/
def A_law10_KnockoutOfTheFirst : List PS := [.c (.i .i64), .agg [.i .i64, .i .i64, .i .i64], .agg [.i .i64, .i .i64], .c (.i .i64)]
def R_law10_KnockoutOfTheFirst : RS := .one (.c (.b))
noncomputable def L_law10_KnockoutOfTheFirst : List Value → List Value := Classical.choose (veil fun vs => (evF Tryd.prog [S_gen_Mod, S_gen_Max, S_gen_Alpha, S_knockout_Color, S_knockout_Alpha, S_knockout_Own, S_law10_source, S_law10_awake, S_operator_Alpha, S_mix_Color] 1000 11 (inL A_law10_KnockoutOfTheFirst vs)).outL)
theorem L_law10_KnockoutOfTheFirst_is (vs : List Value) : L_law10_KnockoutOfTheFirst vs = (evF Tryd.prog [S_gen_Mod, S_gen_Max, S_gen_Alpha, S_knockout_Color, S_knockout_Alpha, S_knockout_Own, S_law10_source, S_law10_awake, S_operator_Alpha, S_mix_Color] 1000 11 (inL A_law10_KnockoutOfTheFirst vs)).outL := Classical.choose_spec (veil fun vs => (evF Tryd.prog [S_gen_Mod, S_gen_Max, S_gen_Alpha, S_knockout_Color, S_knockout_Alpha, S_knockout_Own, S_law10_source, S_law10_awake, S_operator_Alpha, S_mix_Color] 1000 11 (inL A_law10_KnockoutOfTheFirst vs)).outL) vs
noncomputable def S_law10_KnockoutOfTheFirst : Sum := ⟨11, L_law10_KnockoutOfTheFirst, A_law10_KnockoutOfTheFirst, R_law10_KnockoutOfTheFirst⟩
theorem ok_law10_KnockoutOfTheFirst : SumOK Tryd.prog InvN S_law10_KnockoutOfTheFirst := sumOK_evV invN_stays (allOK_cons ok_gen_Mod.any (allOK_cons ok_gen_Max.any (allOK_cons ok_gen_Alpha.any (allOK_cons ok_knockout_Color.any (allOK_cons ok_knockout_Alpha.any (allOK_cons ok_knockout_Own.any (allOK_cons ok_law10_source.any (allOK_cons ok_law10_awake.any (allOK_cons ok_operator_Alpha (allOK_cons ok_mix_Color allOK_nil)))))))))) 1000 11 A_law10_KnockoutOfTheFirst R_law10_KnockoutOfTheFirst L_law10_KnockoutOfTheFirst_is (fun _ => by kernel_rfl)
noncomputable def F_law10_KnockoutOfTheFirst (p0 : Int) (p1 : Int) (p2 : Int) (p3 : Int) (p4 : Int) (p5 : Int) (p6 : Int) : Bool := tru ((L_law10_KnockoutOfTheFirst [.int .i64 p0, .int .i64 p1, .int .i64 p2, .int .i64 p3, .int .i64 p4, .int .i64 p5, .int .i64 p6]).getD 0 undef)
theorem F_law10_KnockoutOfTheFirst_eq (p0 : Int) (p1 : Int) (p2 : Int) (p3 : Int) (p4 : Int) (p5 : Int) (p6 : Int) : F_law10_KnockoutOfTheFirst p0 p1 p2 p3 p4 p5 p6 =
    let x0 := F_law10_awake
    bif x0 then
      (let x1 := F_gen_Mod p0 12
      let x2 := F_gen_Max p6
      let x3 := F_law10_source p1 p2 p3 x2
      let x4 := F_gen_Alpha p4 p5 x2
      let x5 := F_knockout_Color (IntKind.i64.wrap (1 + x1)) x2 x3.1 x3.2.1 x3.2.2 x4.1 x4.1 x4.2
      bif x5.2 then
        (let x6 := F_mix_Color 4 (IntKind.i64.wrap (1 + x1)) x2 x3.1 x3.2.1 x4.1 x4.2
        bif x6.2 then
          (let x7 := F_knockout_Alpha x2 x3.2.1 x3.2.2 x4.2 x4.2
          bif x7.2 then
            (let x8 := F_knockout_Own x2 x3.2.1 x3.2.2 0
            bif x8.2 then
              (bif (x5.1 == x6.1) then
                (let x9 := F_operator_Alpha 4 x3.2.1 x4.2 x2
                bif (x7.1 == x9) then
                  ((x8.1 == x3.2.1))
                else
                  (false))
              else
                (false))
            else
              (false))
          else
            (false))
        else
          (false))
      else
        (false))
    else
      (false) :=
  spellV (L := L_law10_KnockoutOfTheFirst) (fun l => tru ((l).getD 0 undef)) (evF Tryd.prog [S_gen_Mod, S_gen_Max, S_gen_Alpha, S_knockout_Color, S_knockout_Alpha, S_knockout_Own, S_law10_source, S_law10_awake, S_operator_Alpha, S_mix_Color] 1000 11 (inL A_law10_KnockoutOfTheFirst [.int .i64 p0, .int .i64 p1, .int .i64 p2, .int .i64 p3, .int .i64 p4, .int .i64 p5, .int .i64 p6])) (L_law10_KnockoutOfTheFirst_is _) (by kernel_rfl)
end Go.Proofs.YthldhjipjihmoaaDoor
