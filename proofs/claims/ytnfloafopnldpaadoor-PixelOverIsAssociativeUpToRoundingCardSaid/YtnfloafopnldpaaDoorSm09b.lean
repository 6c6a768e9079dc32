/- The statements of chapter 09, their checks. Printed by a program (gen/Gen.lean); what each function does is told by the evaluator, and the kernel checks it. No condition. -/
import Derived.Test.YtnfloafopnldpaaDoorSm09
import Derived.KernelRfl
namespace Go.Proofs.YtnfloafopnldpaaDoor
open Go.RowKit

/-! compositor/compositorlaw09.PixelClasses -/
def A_law09_PixelClasses : List PS := [.agg [.i .u16, .i .u16, .i .u16, .i .u16, .i .u16], .agg [.i .i64, .i .i64, .i .i64, .i .i64, .i .i64], .c (.i .u16), .c (.i .i64)]
def R_law09_PixelClasses : RS := .one (.c (.b))
noncomputable def L_law09_PixelClasses : List Value → List Value := Classical.choose (veil fun vs => (evF Tryd.prog [S_gen_Max, S_ref01_Full, S_ref01_ValidPixel, S_gen_Pixel, S_pixel_Transparent, S_pixel_Opaque, S_law09_awake] 1000 3 (inL A_law09_PixelClasses vs)).outL)
theorem L_law09_PixelClasses_is (vs : List Value) : L_law09_PixelClasses vs = (evF Tryd.prog [S_gen_Max, S_ref01_Full, S_ref01_ValidPixel, S_gen_Pixel, S_pixel_Transparent, S_pixel_Opaque, S_law09_awake] 1000 3 (inL A_law09_PixelClasses vs)).outL := Classical.choose_spec (veil fun vs => (evF Tryd.prog [S_gen_Max, S_ref01_Full, S_ref01_ValidPixel, S_gen_Pixel, S_pixel_Transparent, S_pixel_Opaque, S_law09_awake] 1000 3 (inL A_law09_PixelClasses vs)).outL) vs
noncomputable def S_law09_PixelClasses : Sum := ⟨3, L_law09_PixelClasses, A_law09_PixelClasses, R_law09_PixelClasses⟩
theorem ok_law09_PixelClasses : SumOK Tryd.prog InvN S_law09_PixelClasses := sumOK_evV invN_stays (allOK_cons ok_gen_Max.any (allOK_cons ok_ref01_Full.any (allOK_cons ok_ref01_ValidPixel (allOK_cons ok_gen_Pixel (allOK_cons ok_pixel_Transparent (allOK_cons ok_pixel_Opaque (allOK_cons ok_law09_awake allOK_nil))))))) 1000 3 A_law09_PixelClasses R_law09_PixelClasses L_law09_PixelClasses_is (fun _ => by kernel_rfl)
noncomputable def F_law09_PixelClasses (p0 : Int) (p1 : Int) (p2 : Int) (p3 : Int) (p4 : Int) (p5 : Int) (p6 : Int) (p7 : Int) (p8 : Int) (p9 : Int) (p10 : Int) (p11 : Int) : Bool := tru ((L_law09_PixelClasses [.int .u16 p0, .int .u16 p1, .int .u16 p2, .int .u16 p3, .int .u16 p4, .int .i64 p5, .int .i64 p6, .int .i64 p7, .int .i64 p8, .int .i64 p9, .int .u16 p10, .int .i64 p11]).getD 0 undef)
theorem F_law09_PixelClasses_eq (p0 : Int) (p1 : Int) (p2 : Int) (p3 : Int) (p4 : Int) (p5 : Int) (p6 : Int) (p7 : Int) (p8 : Int) (p9 : Int) (p10 : Int) (p11 : Int) : F_law09_PixelClasses p0 p1 p2 p3 p4 p5 p6 p7 p8 p9 p10 p11 =
    let x0 := F_ref01_Full p10
    bif x0 then
      (let x1 := F_ref01_ValidPixel p0 p1 p2 p3 p4 p10
      bif x1 then
        (let x2 := F_law09_awake
        bif x2 then
          (let x3 := F_pixel_Transparent p0 p1 p2 p3 p4
          bif (x3 == (((p0 == 0) && ((p1 == 0) && (p2 == 0))) && ((p3 == 0) && (p4 == 0)))) then
            (let x4 := F_pixel_Opaque p0 p1 p2 p3 p4 p10
            bif (x4 == (p3 == p10)) then
              (let x5 := F_gen_Max p11
              let x6 := F_gen_Pixel p5 p6 p7 p8 p9 x5
              let x7 := F_pixel_Transparent x6.1 x6.2.1 x6.2.2.1 x6.2.2.2.1 x6.2.2.2.2
              bif (x7 == (((x6.1 == 0) && ((x6.2.1 == 0) && (x6.2.2.1 == 0))) && ((x6.2.2.2.1 == 0) && (x6.2.2.2.2 == 0)))) then
                (let x8 := F_pixel_Opaque x6.1 x6.2.1 x6.2.2.1 x6.2.2.2.1 x6.2.2.2.2 x5
                bif (x8 == (x6.2.2.2.1 == x5)) then
                  (let x9 := F_pixel_Opaque 0 0 0 7 7 7
                  (!x9))
                else
                  (false))
              else
                (false))
            else
              (false))
          else
            (false))
        else
          (false))
      else
        (let x10 := F_law09_awake
        bif x10 then
          (let x11 := F_pixel_Transparent p0 p1 p2 p3 p4
          bif (x11 == (((p0 == 0) && ((p1 == 0) && (p2 == 0))) && ((p3 == 0) && (p4 == 0)))) then
            (let x12 := F_pixel_Opaque p0 p1 p2 p3 p4 p10
            bif (x12 == false) then
              (let x13 := F_gen_Max p11
              let x14 := F_gen_Pixel p5 p6 p7 p8 p9 x13
              let x15 := F_pixel_Transparent x14.1 x14.2.1 x14.2.2.1 x14.2.2.2.1 x14.2.2.2.2
              bif (x15 == (((x14.1 == 0) && ((x14.2.1 == 0) && (x14.2.2.1 == 0))) && ((x14.2.2.2.1 == 0) && (x14.2.2.2.2 == 0)))) then
                (let x16 := F_pixel_Opaque x14.1 x14.2.1 x14.2.2.1 x14.2.2.2.1 x14.2.2.2.2 x13
                bif (x16 == (x14.2.2.2.1 == x13)) then
                  (let x17 := F_pixel_Opaque 0 0 0 7 7 7
                  (!x17))
                else
                  (false))
              else
                (false))
            else
              (false))
          else
            (false))
        else
          (false)))
    else
      (let x18 := F_law09_awake
      bif x18 then
        (let x19 := F_pixel_Transparent p0 p1 p2 p3 p4
        bif (x19 == (((p0 == 0) && ((p1 == 0) && (p2 == 0))) && ((p3 == 0) && (p4 == 0)))) then
          (let x20 := F_pixel_Opaque p0 p1 p2 p3 p4 p10
          bif (x20 == false) then
            (let x21 := F_gen_Max p11
            let x22 := F_gen_Pixel p5 p6 p7 p8 p9 x21
            let x23 := F_pixel_Transparent x22.1 x22.2.1 x22.2.2.1 x22.2.2.2.1 x22.2.2.2.2
            bif (x23 == (((x22.1 == 0) && ((x22.2.1 == 0) && (x22.2.2.1 == 0))) && ((x22.2.2.2.1 == 0) && (x22.2.2.2.2 == 0)))) then
              (let x24 := F_pixel_Opaque x22.1 x22.2.1 x22.2.2.1 x22.2.2.2.1 x22.2.2.2.2 x21
              bif (x24 == (x22.2.2.2.1 == x21)) then
                (let x25 := F_pixel_Opaque 0 0 0 7 7 7
                (!x25))
              else
                (false))
            else
              (false))
          else
            (false))
        else
          (false))
      else
        (false)) :=
  spellV (L := L_law09_PixelClasses) (fun l => tru ((l).getD 0 undef)) (evF Tryd.prog [S_gen_Max, S_ref01_Full, S_ref01_ValidPixel, S_gen_Pixel, S_pixel_Transparent, S_pixel_Opaque, S_law09_awake] 1000 3 (inL A_law09_PixelClasses [.int .u16 p0, .int .u16 p1, .int .u16 p2, .int .u16 p3, .int .u16 p4, .int .i64 p5, .int .i64 p6, .int .i64 p7, .int .i64 p8, .int .i64 p9, .int .u16 p10, .int .i64 p11])) (L_law09_PixelClasses_is _) (by kernel_rfl)

/-! compositor/compositorlaw09.PixelCompositeAgrees -/
def A_law09_PixelCompositeAgrees : List PS := [.c (.i .i64), .c (.i .i64), .agg [.i .i64, .i .i64, .i .i64, .i .i64, .i .i64], .agg [.i .i64, .i .i64, .i .i64, .i .i64, .i .i64], .c (.i .i64), .agg [.i .u16, .i .u16, .i .u16, .i .u16, .i .u16], .agg [.i .u16, .i .u16, .i .u16, .i .u16, .i .u16], .c (.i .u16)]
def R_law09_PixelCompositeAgrees : RS := .one (.c (.b))
noncomputable def L_law09_PixelCompositeAgrees : List Value → List Value := Classical.choose (veil fun vs => (evF Tryd.prog [S_gen_Mod, S_gen_Max, S_gen_Pixel, S_pixel_Composite, S_ref06_Composite, S_law09_awake] 1000 4 (inL A_law09_PixelCompositeAgrees vs)).outL)
theorem L_law09_PixelCompositeAgrees_is (vs : List Value) : L_law09_PixelCompositeAgrees vs = (evF Tryd.prog [S_gen_Mod, S_gen_Max, S_gen_Pixel, S_pixel_Composite, S_ref06_Composite, S_law09_awake] 1000 4 (inL A_law09_PixelCompositeAgrees vs)).outL := Classical.choose_spec (veil fun vs => (evF Tryd.prog [S_gen_Mod, S_gen_Max, S_gen_Pixel, S_pixel_Composite, S_ref06_Composite, S_law09_awake] 1000 4 (inL A_law09_PixelCompositeAgrees vs)).outL) vs
noncomputable def S_law09_PixelCompositeAgrees : Sum := ⟨4, L_law09_PixelCompositeAgrees, A_law09_PixelCompositeAgrees, R_law09_PixelCompositeAgrees⟩
theorem ok_law09_PixelCompositeAgrees : SumOK Tryd.prog InvN S_law09_PixelCompositeAgrees := sumOK_evV invN_stays (allOK_cons ok_gen_Mod.any (allOK_cons ok_gen_Max.any (allOK_cons ok_gen_Pixel (allOK_cons ok_pixel_Composite (allOK_cons ok_ref06_Composite (allOK_cons ok_law09_awake allOK_nil)))))) 1000 4 A_law09_PixelCompositeAgrees R_law09_PixelCompositeAgrees L_law09_PixelCompositeAgrees_is (fun _ => by kernel_rfl)
noncomputable def F_law09_PixelCompositeAgrees (p0 : Int) (p1 : Int) (p2 : Int) (p3 : Int) (p4 : Int) (p5 : Int) (p6 : Int) (p7 : Int) (p8 : Int) (p9 : Int) (p10 : Int) (p11 : Int) (p12 : Int) (p13 : Int) (p14 : Int) (p15 : Int) (p16 : Int) (p17 : Int) (p18 : Int) (p19 : Int) (p20 : Int) (p21 : Int) (p22 : Int) (p23 : Int) : Bool := tru ((L_law09_PixelCompositeAgrees [.int .i64 p0, .int .i64 p1, .int .i64 p2, .int .i64 p3, .int .i64 p4, .int .i64 p5, .int .i64 p6, .int .i64 p7, .int .i64 p8, .int .i64 p9, .int .i64 p10, .int .i64 p11, .int .i64 p12, .int .u16 p13, .int .u16 p14, .int .u16 p15, .int .u16 p16, .int .u16 p17, .int .u16 p18, .int .u16 p19, .int .u16 p20, .int .u16 p21, .int .u16 p22, .int .u16 p23]).getD 0 undef)
theorem F_law09_PixelCompositeAgrees_eq (p0 : Int) (p1 : Int) (p2 : Int) (p3 : Int) (p4 : Int) (p5 : Int) (p6 : Int) (p7 : Int) (p8 : Int) (p9 : Int) (p10 : Int) (p11 : Int) (p12 : Int) (p13 : Int) (p14 : Int) (p15 : Int) (p16 : Int) (p17 : Int) (p18 : Int) (p19 : Int) (p20 : Int) (p21 : Int) (p22 : Int) (p23 : Int) : F_law09_PixelCompositeAgrees p0 p1 p2 p3 p4 p5 p6 p7 p8 p9 p10 p11 p12 p13 p14 p15 p16 p17 p18 p19 p20 p21 p22 p23 =
    let x0 := F_law09_awake
    bif x0 then
      (let x1 := F_gen_Mod p0 14
      let x2 := F_gen_Mod p1 14
      let x3 := F_gen_Max p12
      let x4 := F_gen_Pixel p2 p3 p4 p5 p6 x3
      let x5 := F_gen_Pixel p7 p8 p9 p10 p11 x3
      let x6 := F_pixel_Composite x1 x2 x3 x4.1 x4.2.1 x4.2.2.1 x4.2.2.2.1 x4.2.2.2.2 x5.1 x5.2.1 x5.2.2.1 x5.2.2.2.1 x5.2.2.2.2
      let x7 := F_ref06_Composite x1 x2 x3 x4.1 x4.2.1 x4.2.2.1 x4.2.2.2.1 x4.2.2.2.2 x5.1 x5.2.1 x5.2.2.1 x5.2.2.2.1 x5.2.2.2.2
      bif (((x6.1 == x7.1) && ((x6.2.1 == x7.2.1) && (x6.2.2.1 == x7.2.2.1))) && ((x6.2.2.2.1 == x7.2.2.2.1) && (x6.2.2.2.2.1 == x7.2.2.2.2.1))) then
        (bif (x6.2.2.2.2.2 == x7.2.2.2.2.2) then
          (let x8 := F_pixel_Composite x1 x2 p23 p13 p14 p15 p16 p17 p18 p19 p20 p21 p22
          let x9 := F_ref06_Composite x1 x2 p23 p13 p14 p15 p16 p17 p18 p19 p20 p21 p22
          bif (((x8.1 == x9.1) && ((x8.2.1 == x9.2.1) && (x8.2.2.1 == x9.2.2.1))) && ((x8.2.2.2.1 == x9.2.2.2.1) && (x8.2.2.2.2.1 == x9.2.2.2.2.1))) then
            ((x8.2.2.2.2.2 == x9.2.2.2.2.2))
          else
            (false))
        else
          (false))
      else
        (false))
    else
      (false) :=
  spellV (L := L_law09_PixelCompositeAgrees) (fun l => tru ((l).getD 0 undef)) (evF Tryd.prog [S_gen_Mod, S_gen_Max, S_gen_Pixel, S_pixel_Composite, S_ref06_Composite, S_law09_awake] 1000 4 (inL A_law09_PixelCompositeAgrees [.int .i64 p0, .int .i64 p1, .int .i64 p2, .int .i64 p3, .int .i64 p4, .int .i64 p5, .int .i64 p6, .int .i64 p7, .int .i64 p8, .int .i64 p9, .int .i64 p10, .int .i64 p11, .int .i64 p12, .int .u16 p13, .int .u16 p14, .int .u16 p15, .int .u16 p16, .int .u16 p17, .int .u16 p18, .int .u16 p19, .int .u16 p20, .int .u16 p21, .int .u16 p22, .int .u16 p23])) (L_law09_PixelCompositeAgrees_is _) (by kernel_rfl)

/-! compositor/compositorlaw09.PixelRejectsOneSample -/
def A_law09_PixelRejectsOneSample : List PS := [.c (.i .i64), .c (.i .i64), .agg [.i .i64, .i .i64, .i .i64, .i .i64, .i .i64], .agg [.i .i64, .i .i64, .i .i64, .i .i64, .i .i64], .c (.i .i64), .c (.i .i64)]
def R_law09_PixelRejectsOneSample : RS := .one (.c (.b))
noncomputable def L_law09_PixelRejectsOneSample : List Value → List Value := Classical.choose (veil fun vs => (evF Tryd.prog [S_gen_Mod, S_gen_Max, S_gen_Pixel, S_pixel_Composite, S_law09_awake] 1000 5 (inL A_law09_PixelRejectsOneSample vs)).outL)
theorem L_law09_PixelRejectsOneSample_is (vs : List Value) : L_law09_PixelRejectsOneSample vs = (evF Tryd.prog [S_gen_Mod, S_gen_Max, S_gen_Pixel, S_pixel_Composite, S_law09_awake] 1000 5 (inL A_law09_PixelRejectsOneSample vs)).outL := Classical.choose_spec (veil fun vs => (evF Tryd.prog [S_gen_Mod, S_gen_Max, S_gen_Pixel, S_pixel_Composite, S_law09_awake] 1000 5 (inL A_law09_PixelRejectsOneSample vs)).outL) vs
noncomputable def S_law09_PixelRejectsOneSample : Sum := ⟨5, L_law09_PixelRejectsOneSample, A_law09_PixelRejectsOneSample, R_law09_PixelRejectsOneSample⟩
theorem okB_law09_PixelRejectsOneSample (p0 : Int) (p1 : Int) (p2 : Int) (p3 : Int) (p4 : Int) (p5 : Int) (p6 : Int) (p7 : Int) (p8 : Int) (p9 : Int) (p10 : Int) (p11 : Int) (p12 : Int) (p13 : Int) : (evF Tryd.prog [S_gen_Mod, S_gen_Max, S_gen_Pixel, S_pixel_Composite, S_law09_awake] 1000 5 (inL A_law09_PixelRejectsOneSample [.int .i64 p0, .int .i64 p1, .int .i64 p2, .int .i64 p3, .int .i64 p4, .int .i64 p5, .int .i64 p6, .int .i64 p7, .int .i64 p8, .int .i64 p9, .int .i64 p10, .int .i64 p11, .int .i64 p12, .int .i64 p13])).ok =
    let x0 := F_gen_Mod p13 3
    bif (x0 == 0) then
      (let x1 := F_gen_Mod (IntKind.i64.wrap (Int.tdiv p13 3)) 3
      bif (x1 == 0) then
        (true)
      else
        (bif (x1 == 1) then
          (true)
        else
          (bif (x1 == 2) then
            (true)
          else
            (false))))
    else
      (true) := (okR_eq _).trans (by kernel_rfl)
theorem okA_law09_PixelRejectsOneSample (h : ∀ p0 p1 p2 p3 p4 p5 p6 p7 p8 p9 p10 p11 p12 p13 , IntKind.i64.min ≤ p0 → p0 ≤ IntKind.i64.max → IntKind.i64.min ≤ p1 → p1 ≤ IntKind.i64.max → IntKind.i64.min ≤ p2 → p2 ≤ IntKind.i64.max → IntKind.i64.min ≤ p3 → p3 ≤ IntKind.i64.max → IntKind.i64.min ≤ p4 → p4 ≤ IntKind.i64.max → IntKind.i64.min ≤ p5 → p5 ≤ IntKind.i64.max → IntKind.i64.min ≤ p6 → p6 ≤ IntKind.i64.max → IntKind.i64.min ≤ p7 → p7 ≤ IntKind.i64.max → IntKind.i64.min ≤ p8 → p8 ≤ IntKind.i64.max → IntKind.i64.min ≤ p9 → p9 ≤ IntKind.i64.max → IntKind.i64.min ≤ p10 → p10 ≤ IntKind.i64.max → IntKind.i64.min ≤ p11 → p11 ≤ IntKind.i64.max → IntKind.i64.min ≤ p12 → p12 ≤ IntKind.i64.max → IntKind.i64.min ≤ p13 → p13 ≤ IntKind.i64.max → (evF Tryd.prog [S_gen_Mod, S_gen_Max, S_gen_Pixel, S_pixel_Composite, S_law09_awake] 1000 5 (inL A_law09_PixelRejectsOneSample [.int .i64 p0, .int .i64 p1, .int .i64 p2, .int .i64 p3, .int .i64 p4, .int .i64 p5, .int .i64 p6, .int .i64 p7, .int .i64 p8, .int .i64 p9, .int .i64 p10, .int .i64 p11, .int .i64 p12, .int .i64 p13])).ok = true) : SumOK Tryd.prog InvN S_law09_PixelRejectsOneSample := sumOK_partV invN_stays (allOK_cons ok_gen_Mod.any (allOK_cons ok_gen_Max.any (allOK_cons ok_gen_Pixel (allOK_cons ok_pixel_Composite (allOK_cons ok_law09_awake allOK_nil))))) 1000 5 A_law09_PixelRejectsOneSample R_law09_PixelRejectsOneSample L_law09_PixelRejectsOneSample_is (fun _ => by kernel_rfl) (fun vs hk => by
  obtain ⟨_, _, rfl, ⟨p0, rfl, p0lo, p0hi⟩, _, _, rfl, ⟨p1, rfl, p1lo, p1hi⟩, _, _, rfl, ⟨p2, rfl, p2lo, p2hi⟩, _, _, rfl, ⟨p3, rfl, p3lo, p3hi⟩, _, _, rfl, ⟨p4, rfl, p4lo, p4hi⟩, _, _, rfl, ⟨p5, rfl, p5lo, p5hi⟩, _, _, rfl, ⟨p6, rfl, p6lo, p6hi⟩, _, _, rfl, ⟨p7, rfl, p7lo, p7hi⟩, _, _, rfl, ⟨p8, rfl, p8lo, p8hi⟩, _, _, rfl, ⟨p9, rfl, p9lo, p9hi⟩, _, _, rfl, ⟨p10, rfl, p10lo, p10hi⟩, _, _, rfl, ⟨p11, rfl, p11lo, p11hi⟩, _, _, rfl, ⟨p12, rfl, p12lo, p12hi⟩, _, _, rfl, ⟨p13, rfl, p13lo, p13hi⟩, rfl⟩ := hk
  exact h p0 p1 p2 p3 p4 p5 p6 p7 p8 p9 p10 p11 p12 p13 p0lo p0hi p1lo p1hi p2lo p2hi p3lo p3hi p4lo p4hi p5lo p5hi p6lo p6hi p7lo p7hi p8lo p8hi p9lo p9hi p10lo p10hi p11lo p11hi p12lo p12hi p13lo p13hi )
theorem ok_law09_PixelRejectsOneSample : SumOK Tryd.prog InvN S_law09_PixelRejectsOneSample := okA_law09_PixelRejectsOneSample (by
  intro p0 p1 p2 p3 p4 p5 p6 p7 p8 p9 p10 p11 p12 p13
  intros
  rw [okB_law09_PixelRejectsOneSample]
  simp only [gMod (x := IntKind.i64.wrap (Int.tdiv p13 3)) (n := 3) (by decide) (by decide)]
  have e0 : IntKind.i64.wrap (Int.tdiv p13 3) % 3 = 0 ∨ IntKind.i64.wrap (Int.tdiv p13 3) % 3 = 1 ∨ IntKind.i64.wrap (Int.tdiv p13 3) % 3 = 2 := by omega
  generalize (F_gen_Mod p13 3 == 0) = c
  cases c
  · rfl
  · rcases e0 with h | h | h <;> rw [h] <;> rfl)
noncomputable def F_law09_PixelRejectsOneSample (p0 : Int) (p1 : Int) (p2 : Int) (p3 : Int) (p4 : Int) (p5 : Int) (p6 : Int) (p7 : Int) (p8 : Int) (p9 : Int) (p10 : Int) (p11 : Int) (p12 : Int) (p13 : Int) : Bool := tru ((L_law09_PixelRejectsOneSample [.int .i64 p0, .int .i64 p1, .int .i64 p2, .int .i64 p3, .int .i64 p4, .int .i64 p5, .int .i64 p6, .int .i64 p7, .int .i64 p8, .int .i64 p9, .int .i64 p10, .int .i64 p11, .int .i64 p12, .int .i64 p13]).getD 0 undef)
theorem F_law09_PixelRejectsOneSample_eq (p0 : Int) (p1 : Int) (p2 : Int) (p3 : Int) (p4 : Int) (p5 : Int) (p6 : Int) (p7 : Int) (p8 : Int) (p9 : Int) (p10 : Int) (p11 : Int) (p12 : Int) (p13 : Int) : F_law09_PixelRejectsOneSample p0 p1 p2 p3 p4 p5 p6 p7 p8 p9 p10 p11 p12 p13 =
    let x0 := F_gen_Mod p13 3
    bif (x0 == 0) then
      (let x1 := F_gen_Mod (IntKind.i64.wrap (Int.tdiv p13 3)) 3
      bif (x1 == 0) then
        (let x2 := F_gen_Max p12
        let x3 := F_gen_Pixel p2 p3 p4 p5 p6 x2
        bif (x3.2.2.2.1 == 0) then
          (let x4 := F_law09_awake
          bif x4 then
            (let x5 := F_gen_Mod p0 12
            let x6 := F_gen_Mod p1 12
            let x7 := F_gen_Pixel p7 p8 p9 p10 p11 x2
            let x8 := F_pixel_Composite (IntKind.i64.wrap (1 + x5)) (IntKind.i64.wrap (1 + x6)) x2 1 x3.2.1 x3.2.2.1 (IntKind.u16.wrap (x3.2.2.2.1 - (if 1 < x3.2.2.2.1 then 1 else x3.2.2.2.1))) x3.2.2.2.2 x7.1 x7.2.1 x7.2.2.1 x7.2.2.2.1 x7.2.2.2.2
            bif (!x8.2.2.2.2.2) then
              (let x9 := F_pixel_Composite (IntKind.i64.wrap (1 + x5)) (IntKind.i64.wrap (1 + x6)) x2 x7.1 x7.2.1 x7.2.2.1 x7.2.2.2.1 x7.2.2.2.2 1 x3.2.1 x3.2.2.1 (IntKind.u16.wrap (x3.2.2.2.1 - (if 1 < x3.2.2.2.1 then 1 else x3.2.2.2.1))) x3.2.2.2.2
              bif (!x9.2.2.2.2.2) then
                (bif (((x8.1 == 0) && ((x8.2.1 == 0) && (x8.2.2.1 == 0))) && ((x8.2.2.2.1 == 0) && (x8.2.2.2.2.1 == 0))) then
                  ((((x9.1 == 0) && ((x9.2.1 == 0) && (x9.2.2.1 == 0))) && ((x9.2.2.2.1 == 0) && (x9.2.2.2.2.1 == 0))))
                else
                  (false))
              else
                (false))
            else
              (false))
          else
            (false))
        else
          (let x10 := F_law09_awake
          bif x10 then
            (let x11 := F_gen_Mod p0 12
            let x12 := F_gen_Mod p1 12
            let x13 := F_gen_Pixel p7 p8 p9 p10 p11 x2
            let x14 := F_pixel_Composite (IntKind.i64.wrap (1 + x11)) (IntKind.i64.wrap (1 + x12)) x2 x3.2.2.2.1 x3.2.1 x3.2.2.1 (IntKind.u16.wrap (x3.2.2.2.1 - (if 1 < x3.2.2.2.1 then 1 else x3.2.2.2.1))) x3.2.2.2.2 x13.1 x13.2.1 x13.2.2.1 x13.2.2.2.1 x13.2.2.2.2
            bif (!x14.2.2.2.2.2) then
              (let x15 := F_pixel_Composite (IntKind.i64.wrap (1 + x11)) (IntKind.i64.wrap (1 + x12)) x2 x13.1 x13.2.1 x13.2.2.1 x13.2.2.2.1 x13.2.2.2.2 x3.2.2.2.1 x3.2.1 x3.2.2.1 (IntKind.u16.wrap (x3.2.2.2.1 - (if 1 < x3.2.2.2.1 then 1 else x3.2.2.2.1))) x3.2.2.2.2
              bif (!x15.2.2.2.2.2) then
                (bif (((x14.1 == 0) && ((x14.2.1 == 0) && (x14.2.2.1 == 0))) && ((x14.2.2.2.1 == 0) && (x14.2.2.2.2.1 == 0))) then
                  ((((x15.1 == 0) && ((x15.2.1 == 0) && (x15.2.2.1 == 0))) && ((x15.2.2.2.1 == 0) && (x15.2.2.2.2.1 == 0))))
                else
                  (false))
              else
                (false))
            else
              (false))
          else
            (false)))
      else
        (bif (x1 == 1) then
          (let x16 := F_gen_Max p12
          let x17 := F_gen_Pixel p2 p3 p4 p5 p6 x16
          bif (x17.2.2.2.1 == 0) then
            (let x18 := F_law09_awake
            bif x18 then
              (let x19 := F_gen_Mod p0 12
              let x20 := F_gen_Mod p1 12
              let x21 := F_gen_Pixel p7 p8 p9 p10 p11 x16
              let x22 := F_pixel_Composite (IntKind.i64.wrap (1 + x19)) (IntKind.i64.wrap (1 + x20)) x16 1 x17.2.2.2.1 x17.2.2.1 (IntKind.u16.wrap (x17.2.2.2.1 - (if 1 < x17.2.2.2.1 then 1 else x17.2.2.2.1))) x17.2.2.2.2 x21.1 x21.2.1 x21.2.2.1 x21.2.2.2.1 x21.2.2.2.2
              bif (!x22.2.2.2.2.2) then
                (let x23 := F_pixel_Composite (IntKind.i64.wrap (1 + x19)) (IntKind.i64.wrap (1 + x20)) x16 x21.1 x21.2.1 x21.2.2.1 x21.2.2.2.1 x21.2.2.2.2 1 x17.2.2.2.1 x17.2.2.1 (IntKind.u16.wrap (x17.2.2.2.1 - (if 1 < x17.2.2.2.1 then 1 else x17.2.2.2.1))) x17.2.2.2.2
                bif (!x23.2.2.2.2.2) then
                  (bif (((x22.1 == 0) && ((x22.2.1 == 0) && (x22.2.2.1 == 0))) && ((x22.2.2.2.1 == 0) && (x22.2.2.2.2.1 == 0))) then
                    ((((x23.1 == 0) && ((x23.2.1 == 0) && (x23.2.2.1 == 0))) && ((x23.2.2.2.1 == 0) && (x23.2.2.2.2.1 == 0))))
                  else
                    (false))
                else
                  (false))
              else
                (false))
            else
              (false))
          else
            (let x24 := F_law09_awake
            bif x24 then
              (let x25 := F_gen_Mod p0 12
              let x26 := F_gen_Mod p1 12
              let x27 := F_gen_Pixel p7 p8 p9 p10 p11 x16
              let x28 := F_pixel_Composite (IntKind.i64.wrap (1 + x25)) (IntKind.i64.wrap (1 + x26)) x16 x17.1 x17.2.2.2.1 x17.2.2.1 (IntKind.u16.wrap (x17.2.2.2.1 - (if 1 < x17.2.2.2.1 then 1 else x17.2.2.2.1))) x17.2.2.2.2 x27.1 x27.2.1 x27.2.2.1 x27.2.2.2.1 x27.2.2.2.2
              bif (!x28.2.2.2.2.2) then
                (let x29 := F_pixel_Composite (IntKind.i64.wrap (1 + x25)) (IntKind.i64.wrap (1 + x26)) x16 x27.1 x27.2.1 x27.2.2.1 x27.2.2.2.1 x27.2.2.2.2 x17.1 x17.2.2.2.1 x17.2.2.1 (IntKind.u16.wrap (x17.2.2.2.1 - (if 1 < x17.2.2.2.1 then 1 else x17.2.2.2.1))) x17.2.2.2.2
                bif (!x29.2.2.2.2.2) then
                  (bif (((x28.1 == 0) && ((x28.2.1 == 0) && (x28.2.2.1 == 0))) && ((x28.2.2.2.1 == 0) && (x28.2.2.2.2.1 == 0))) then
                    ((((x29.1 == 0) && ((x29.2.1 == 0) && (x29.2.2.1 == 0))) && ((x29.2.2.2.1 == 0) && (x29.2.2.2.2.1 == 0))))
                  else
                    (false))
                else
                  (false))
              else
                (false))
            else
              (false)))
        else
          (bif (x1 == 2) then
            (let x30 := F_gen_Max p12
            let x31 := F_gen_Pixel p2 p3 p4 p5 p6 x30
            bif (x31.2.2.2.1 == 0) then
              (let x32 := F_law09_awake
              bif x32 then
                (let x33 := F_gen_Mod p0 12
                let x34 := F_gen_Mod p1 12
                let x35 := F_gen_Pixel p7 p8 p9 p10 p11 x30
                let x36 := F_pixel_Composite (IntKind.i64.wrap (1 + x33)) (IntKind.i64.wrap (1 + x34)) x30 1 x31.2.1 x31.2.2.2.1 (IntKind.u16.wrap (x31.2.2.2.1 - (if 1 < x31.2.2.2.1 then 1 else x31.2.2.2.1))) x31.2.2.2.2 x35.1 x35.2.1 x35.2.2.1 x35.2.2.2.1 x35.2.2.2.2
                bif (!x36.2.2.2.2.2) then
                  (let x37 := F_pixel_Composite (IntKind.i64.wrap (1 + x33)) (IntKind.i64.wrap (1 + x34)) x30 x35.1 x35.2.1 x35.2.2.1 x35.2.2.2.1 x35.2.2.2.2 1 x31.2.1 x31.2.2.2.1 (IntKind.u16.wrap (x31.2.2.2.1 - (if 1 < x31.2.2.2.1 then 1 else x31.2.2.2.1))) x31.2.2.2.2
                  bif (!x37.2.2.2.2.2) then
                    (bif (((x36.1 == 0) && ((x36.2.1 == 0) && (x36.2.2.1 == 0))) && ((x36.2.2.2.1 == 0) && (x36.2.2.2.2.1 == 0))) then
                      ((((x37.1 == 0) && ((x37.2.1 == 0) && (x37.2.2.1 == 0))) && ((x37.2.2.2.1 == 0) && (x37.2.2.2.2.1 == 0))))
                    else
                      (false))
                  else
                    (false))
                else
                  (false))
              else
                (false))
            else
              (let x38 := F_law09_awake
              bif x38 then
                (let x39 := F_gen_Mod p0 12
                let x40 := F_gen_Mod p1 12
                let x41 := F_gen_Pixel p7 p8 p9 p10 p11 x30
                let x42 := F_pixel_Composite (IntKind.i64.wrap (1 + x39)) (IntKind.i64.wrap (1 + x40)) x30 x31.1 x31.2.1 x31.2.2.2.1 (IntKind.u16.wrap (x31.2.2.2.1 - (if 1 < x31.2.2.2.1 then 1 else x31.2.2.2.1))) x31.2.2.2.2 x41.1 x41.2.1 x41.2.2.1 x41.2.2.2.1 x41.2.2.2.2
                bif (!x42.2.2.2.2.2) then
                  (let x43 := F_pixel_Composite (IntKind.i64.wrap (1 + x39)) (IntKind.i64.wrap (1 + x40)) x30 x41.1 x41.2.1 x41.2.2.1 x41.2.2.2.1 x41.2.2.2.2 x31.1 x31.2.1 x31.2.2.2.1 (IntKind.u16.wrap (x31.2.2.2.1 - (if 1 < x31.2.2.2.1 then 1 else x31.2.2.2.1))) x31.2.2.2.2
                  bif (!x43.2.2.2.2.2) then
                    (bif (((x42.1 == 0) && ((x42.2.1 == 0) && (x42.2.2.1 == 0))) && ((x42.2.2.2.1 == 0) && (x42.2.2.2.2.1 == 0))) then
                      ((((x43.1 == 0) && ((x43.2.1 == 0) && (x43.2.2.1 == 0))) && ((x43.2.2.2.1 == 0) && (x43.2.2.2.2.1 == 0))))
                    else
                      (false))
                  else
                    (false))
                else
                  (false))
              else
                (false)))
          else
            ((tru undef)))))
    else
      (bif (x0 == 1) then
        (let x44 := F_gen_Max p12
        let x45 := F_gen_Pixel p2 p3 p4 p5 p6 x44
        bif (x45.2.2.2.1 == 65535) then
          (let x46 := F_law09_awake
          bif x46 then
            (let x47 := F_gen_Mod p0 12
            let x48 := F_gen_Mod p1 12
            let x49 := F_gen_Pixel p7 p8 p9 p10 p11 x44
            let x50 := F_pixel_Composite (IntKind.i64.wrap (1 + x47)) (IntKind.i64.wrap (1 + x48)) x44 x45.1 x45.2.1 x45.2.2.1 65535 65534 x49.1 x49.2.1 x49.2.2.1 x49.2.2.2.1 x49.2.2.2.2
            bif (!x50.2.2.2.2.2) then
              (let x51 := F_pixel_Composite (IntKind.i64.wrap (1 + x47)) (IntKind.i64.wrap (1 + x48)) x44 x49.1 x49.2.1 x49.2.2.1 x49.2.2.2.1 x49.2.2.2.2 x45.1 x45.2.1 x45.2.2.1 65535 65534
              bif (!x51.2.2.2.2.2) then
                (bif (((x50.1 == 0) && ((x50.2.1 == 0) && (x50.2.2.1 == 0))) && ((x50.2.2.2.1 == 0) && (x50.2.2.2.2.1 == 0))) then
                  ((((x51.1 == 0) && ((x51.2.1 == 0) && (x51.2.2.1 == 0))) && ((x51.2.2.2.1 == 0) && (x51.2.2.2.2.1 == 0))))
                else
                  (false))
              else
                (false))
            else
              (false))
          else
            (false))
        else
          (let x52 := F_law09_awake
          bif x52 then
            (let x53 := F_gen_Mod p0 12
            let x54 := F_gen_Mod p1 12
            let x55 := F_gen_Pixel p7 p8 p9 p10 p11 x44
            let x56 := F_pixel_Composite (IntKind.i64.wrap (1 + x53)) (IntKind.i64.wrap (1 + x54)) x44 x45.1 x45.2.1 x45.2.2.1 (IntKind.u16.wrap (x45.2.2.2.1 + 1)) x45.2.2.2.1 x55.1 x55.2.1 x55.2.2.1 x55.2.2.2.1 x55.2.2.2.2
            bif (!x56.2.2.2.2.2) then
              (let x57 := F_pixel_Composite (IntKind.i64.wrap (1 + x53)) (IntKind.i64.wrap (1 + x54)) x44 x55.1 x55.2.1 x55.2.2.1 x55.2.2.2.1 x55.2.2.2.2 x45.1 x45.2.1 x45.2.2.1 (IntKind.u16.wrap (x45.2.2.2.1 + 1)) x45.2.2.2.1
              bif (!x57.2.2.2.2.2) then
                (bif (((x56.1 == 0) && ((x56.2.1 == 0) && (x56.2.2.1 == 0))) && ((x56.2.2.2.1 == 0) && (x56.2.2.2.2.1 == 0))) then
                  ((((x57.1 == 0) && ((x57.2.1 == 0) && (x57.2.2.1 == 0))) && ((x57.2.2.2.1 == 0) && (x57.2.2.2.2.1 == 0))))
                else
                  (false))
              else
                (false))
            else
              (false))
          else
            (false)))
      else
        (let x58 := F_gen_Max p12
        bif (x58 == 65535) then
          (let x59 := F_law09_awake
          bif x59 then
            (let x60 := F_gen_Mod p0 12
            let x61 := F_gen_Mod p1 12
            let x62 := F_gen_Pixel p7 p8 p9 p10 p11 x58
            let x63 := F_pixel_Composite (IntKind.i64.wrap (1 + x60)) (IntKind.i64.wrap (1 + x61)) x58 1 0 0 0 0 x62.1 x62.2.1 x62.2.2.1 x62.2.2.2.1 x62.2.2.2.2
            bif (!x63.2.2.2.2.2) then
              (let x64 := F_pixel_Composite (IntKind.i64.wrap (1 + x60)) (IntKind.i64.wrap (1 + x61)) x58 x62.1 x62.2.1 x62.2.2.1 x62.2.2.2.1 x62.2.2.2.2 1 0 0 0 0
              bif (!x64.2.2.2.2.2) then
                (bif (((x63.1 == 0) && ((x63.2.1 == 0) && (x63.2.2.1 == 0))) && ((x63.2.2.2.1 == 0) && (x63.2.2.2.2.1 == 0))) then
                  ((((x64.1 == 0) && ((x64.2.1 == 0) && (x64.2.2.1 == 0))) && ((x64.2.2.2.1 == 0) && (x64.2.2.2.2.1 == 0))))
                else
                  (false))
              else
                (false))
            else
              (false))
          else
            (false))
        else
          (let x65 := F_law09_awake
          bif x65 then
            (let x66 := F_gen_Mod p0 12
            let x67 := F_gen_Mod p1 12
            let x68 := F_gen_Pixel p2 p3 p4 p5 p6 x58
            let x69 := F_gen_Pixel p7 p8 p9 p10 p11 x58
            let x70 := F_pixel_Composite (IntKind.i64.wrap (1 + x66)) (IntKind.i64.wrap (1 + x67)) x58 x68.1 x68.2.1 x68.2.2.1 x68.2.2.2.1 (IntKind.u16.wrap (x58 + 1)) x69.1 x69.2.1 x69.2.2.1 x69.2.2.2.1 x69.2.2.2.2
            bif (!x70.2.2.2.2.2) then
              (let x71 := F_pixel_Composite (IntKind.i64.wrap (1 + x66)) (IntKind.i64.wrap (1 + x67)) x58 x69.1 x69.2.1 x69.2.2.1 x69.2.2.2.1 x69.2.2.2.2 x68.1 x68.2.1 x68.2.2.1 x68.2.2.2.1 (IntKind.u16.wrap (x58 + 1))
              bif (!x71.2.2.2.2.2) then
                (bif (((x70.1 == 0) && ((x70.2.1 == 0) && (x70.2.2.1 == 0))) && ((x70.2.2.2.1 == 0) && (x70.2.2.2.2.1 == 0))) then
                  ((((x71.1 == 0) && ((x71.2.1 == 0) && (x71.2.2.1 == 0))) && ((x71.2.2.2.1 == 0) && (x71.2.2.2.2.1 == 0))))
                else
                  (false))
              else
                (false))
            else
              (false))
          else
            (false)))) :=
  spellV (L := L_law09_PixelRejectsOneSample) (fun l => tru ((l).getD 0 undef)) (evF Tryd.prog [S_gen_Mod, S_gen_Max, S_gen_Pixel, S_pixel_Composite, S_law09_awake] 1000 5 (inL A_law09_PixelRejectsOneSample [.int .i64 p0, .int .i64 p1, .int .i64 p2, .int .i64 p3, .int .i64 p4, .int .i64 p5, .int .i64 p6, .int .i64 p7, .int .i64 p8, .int .i64 p9, .int .i64 p10, .int .i64 p11, .int .i64 p12, .int .i64 p13])) (L_law09_PixelRejectsOneSample_is _) (by kernel_rfl)

/-! compositor/compositorlaw09.PixelStaysValid -/
def A_law09_PixelStaysValid : List PS := [.c (.i .i64), .c (.i .i64), .agg [.i .i64, .i .i64, .i .i64, .i .i64, .i .i64], .agg [.i .i64, .i .i64, .i .i64, .i .i64, .i .i64], .c (.i .i64)]
def R_law09_PixelStaysValid : RS := .one (.c (.b))
noncomputable def L_law09_PixelStaysValid : List Value → List Value := Classical.choose (veil fun vs => (evF Tryd.prog [S_gen_Mod, S_gen_Max, S_ref01_ValidPixel, S_gen_Pixel, S_pixel_Composite, S_law09_awake] 1000 6 (inL A_law09_PixelStaysValid vs)).outL)
theorem L_law09_PixelStaysValid_is (vs : List Value) : L_law09_PixelStaysValid vs = (evF Tryd.prog [S_gen_Mod, S_gen_Max, S_ref01_ValidPixel, S_gen_Pixel, S_pixel_Composite, S_law09_awake] 1000 6 (inL A_law09_PixelStaysValid vs)).outL := Classical.choose_spec (veil fun vs => (evF Tryd.prog [S_gen_Mod, S_gen_Max, S_ref01_ValidPixel, S_gen_Pixel, S_pixel_Composite, S_law09_awake] 1000 6 (inL A_law09_PixelStaysValid vs)).outL) vs
noncomputable def S_law09_PixelStaysValid : Sum := ⟨6, L_law09_PixelStaysValid, A_law09_PixelStaysValid, R_law09_PixelStaysValid⟩
theorem ok_law09_PixelStaysValid : SumOK Tryd.prog InvN S_law09_PixelStaysValid := sumOK_evV invN_stays (allOK_cons ok_gen_Mod.any (allOK_cons ok_gen_Max.any (allOK_cons ok_ref01_ValidPixel (allOK_cons ok_gen_Pixel (allOK_cons ok_pixel_Composite (allOK_cons ok_law09_awake allOK_nil)))))) 1000 6 A_law09_PixelStaysValid R_law09_PixelStaysValid L_law09_PixelStaysValid_is (fun _ => by kernel_rfl)
noncomputable def F_law09_PixelStaysValid (p0 : Int) (p1 : Int) (p2 : Int) (p3 : Int) (p4 : Int) (p5 : Int) (p6 : Int) (p7 : Int) (p8 : Int) (p9 : Int) (p10 : Int) (p11 : Int) (p12 : Int) : Bool := tru ((L_law09_PixelStaysValid [.int .i64 p0, .int .i64 p1, .int .i64 p2, .int .i64 p3, .int .i64 p4, .int .i64 p5, .int .i64 p6, .int .i64 p7, .int .i64 p8, .int .i64 p9, .int .i64 p10, .int .i64 p11, .int .i64 p12]).getD 0 undef)
theorem F_law09_PixelStaysValid_eq (p0 : Int) (p1 : Int) (p2 : Int) (p3 : Int) (p4 : Int) (p5 : Int) (p6 : Int) (p7 : Int) (p8 : Int) (p9 : Int) (p10 : Int) (p11 : Int) (p12 : Int) : F_law09_PixelStaysValid p0 p1 p2 p3 p4 p5 p6 p7 p8 p9 p10 p11 p12 =
    let x0 := F_law09_awake
    bif x0 then
      (let x1 := F_gen_Mod p0 12
      let x2 := F_gen_Mod p1 12
      let x3 := F_gen_Max p12
      let x4 := F_gen_Pixel p2 p3 p4 p5 p6 x3
      let x5 := F_gen_Pixel p7 p8 p9 p10 p11 x3
      let x6 := F_pixel_Composite (IntKind.i64.wrap (1 + x1)) (IntKind.i64.wrap (1 + x2)) x3 x4.1 x4.2.1 x4.2.2.1 x4.2.2.2.1 x4.2.2.2.2 x5.1 x5.2.1 x5.2.2.1 x5.2.2.2.1 x5.2.2.2.2
      bif x6.2.2.2.2.2 then
        (let x7 := F_ref01_ValidPixel x6.1 x6.2.1 x6.2.2.1 x6.2.2.2.1 x6.2.2.2.2.1 x3
        x7)
      else
        (false))
    else
      (false) :=
  spellV (L := L_law09_PixelStaysValid) (fun l => tru ((l).getD 0 undef)) (evF Tryd.prog [S_gen_Mod, S_gen_Max, S_ref01_ValidPixel, S_gen_Pixel, S_pixel_Composite, S_law09_awake] 1000 6 (inL A_law09_PixelStaysValid [.int .i64 p0, .int .i64 p1, .int .i64 p2, .int .i64 p3, .int .i64 p4, .int .i64 p5, .int .i64 p6, .int .i64 p7, .int .i64 p8, .int .i64 p9, .int .i64 p10, .int .i64 p11, .int .i64 p12])) (L_law09_PixelStaysValid_is _) (by kernel_rfl)

/-! compositor/compositorlaw09.PixelIdentities -/
def A_law09_PixelIdentities : List PS := [.c (.i .i64), .c (.i .i64), .agg [.i .i64, .i .i64, .i .i64, .i .i64, .i .i64], .agg [.i .i64, .i .i64, .i .i64, .i .i64, .i .i64], .c (.i .i64)]
def R_law09_PixelIdentities : RS := .one (.c (.b))
noncomputable def L_law09_PixelIdentities : List Value → List Value := Classical.choose (veil fun vs => (evF Tryd.prog [S_gen_Mod, S_gen_Max, S_ref06_Neutral, S_ref06_Fresh, S_gen_Pixel, S_pixel_Composite, S_law09_awake] 1000 7 (inL A_law09_PixelIdentities vs)).outL)
theorem L_law09_PixelIdentities_is (vs : List Value) : L_law09_PixelIdentities vs = (evF Tryd.prog [S_gen_Mod, S_gen_Max, S_ref06_Neutral, S_ref06_Fresh, S_gen_Pixel, S_pixel_Composite, S_law09_awake] 1000 7 (inL A_law09_PixelIdentities vs)).outL := Classical.choose_spec (veil fun vs => (evF Tryd.prog [S_gen_Mod, S_gen_Max, S_ref06_Neutral, S_ref06_Fresh, S_gen_Pixel, S_pixel_Composite, S_law09_awake] 1000 7 (inL A_law09_PixelIdentities vs)).outL) vs
noncomputable def S_law09_PixelIdentities : Sum := ⟨7, L_law09_PixelIdentities, A_law09_PixelIdentities, R_law09_PixelIdentities⟩
theorem ok_law09_PixelIdentities : SumOK Tryd.prog InvN S_law09_PixelIdentities := sumOK_evV invN_stays (allOK_cons ok_gen_Mod.any (allOK_cons ok_gen_Max.any (allOK_cons ok_ref06_Neutral (allOK_cons ok_ref06_Fresh (allOK_cons ok_gen_Pixel (allOK_cons ok_pixel_Composite (allOK_cons ok_law09_awake allOK_nil))))))) 1000 7 A_law09_PixelIdentities R_law09_PixelIdentities L_law09_PixelIdentities_is (fun _ => by kernel_rfl)
noncomputable def F_law09_PixelIdentities (p0 : Int) (p1 : Int) (p2 : Int) (p3 : Int) (p4 : Int) (p5 : Int) (p6 : Int) (p7 : Int) (p8 : Int) (p9 : Int) (p10 : Int) (p11 : Int) (p12 : Int) : Bool := tru ((L_law09_PixelIdentities [.int .i64 p0, .int .i64 p1, .int .i64 p2, .int .i64 p3, .int .i64 p4, .int .i64 p5, .int .i64 p6, .int .i64 p7, .int .i64 p8, .int .i64 p9, .int .i64 p10, .int .i64 p11, .int .i64 p12]).getD 0 undef)
theorem F_law09_PixelIdentities_eq (p0 : Int) (p1 : Int) (p2 : Int) (p3 : Int) (p4 : Int) (p5 : Int) (p6 : Int) (p7 : Int) (p8 : Int) (p9 : Int) (p10 : Int) (p11 : Int) (p12 : Int) : F_law09_PixelIdentities p0 p1 p2 p3 p4 p5 p6 p7 p8 p9 p10 p11 p12 =
    let x0 := F_law09_awake
    bif x0 then
      (let x1 := F_gen_Mod p0 12
      let x2 := F_gen_Mod p1 12
      let x3 := F_gen_Max p12
      let x4 := F_gen_Pixel p7 p8 p9 p10 p11 x3
      let x5 := F_pixel_Composite (IntKind.i64.wrap (1 + x1)) (IntKind.i64.wrap (1 + x2)) x3 0 0 0 0 0 x4.1 x4.2.1 x4.2.2.1 x4.2.2.2.1 x4.2.2.2.2
      bif x5.2.2.2.2.2 then
        (let x6 := F_gen_Pixel p2 p3 p4 p5 p6 x3
        let x7 := F_pixel_Composite (IntKind.i64.wrap (1 + x1)) (IntKind.i64.wrap (1 + x2)) x3 x6.1 x6.2.1 x6.2.2.1 x6.2.2.2.1 x6.2.2.2.2 0 0 0 0 0
        bif x7.2.2.2.2.2 then
          (let x8 := F_pixel_Composite 3 (IntKind.i64.wrap (1 + x2)) x3 x6.1 x6.2.1 x6.2.2.1 x6.2.2.2.1 x6.2.2.2.2 x4.1 x4.2.1 x4.2.2.1 x4.2.2.2.1 x4.2.2.2.2
          bif x8.2.2.2.2.2 then
            (let x9 := F_pixel_Composite 2 1 x3 x6.1 x6.2.1 x6.2.2.1 x6.2.2.2.1 x6.2.2.2.2 x4.1 x4.2.1 x4.2.2.1 x4.2.2.2.1 x4.2.2.2.2
            bif x9.2.2.2.2.2 then
              (let x10 := F_ref06_Neutral (IntKind.i64.wrap (1 + x1))
              bif (!x10) then
                (let x11 := F_ref06_Fresh (IntKind.i64.wrap (1 + x1))
                bif (!x11) then
                  (bif (((x8.1 == x4.1) && ((x8.2.1 == x4.2.1) && (x8.2.2.1 == x4.2.2.1))) && ((x8.2.2.2.1 == x4.2.2.2.1) && (x8.2.2.2.2.1 == x4.2.2.2.2))) then
                    ((((x9.1 == x6.1) && ((x9.2.1 == x6.2.1) && (x9.2.2.1 == x6.2.2.1))) && ((x9.2.2.2.1 == x6.2.2.2.1) && (x9.2.2.2.2.1 == x6.2.2.2.2))))
                  else
                    (false))
                else
                  (bif (((x7.1 == x6.1) && ((x7.2.1 == x6.2.1) && (x7.2.2.1 == x6.2.2.1))) && ((x7.2.2.2.1 == x6.2.2.2.1) && (x7.2.2.2.2.1 == x6.2.2.2.2))) then
                    (bif (((x8.1 == x4.1) && ((x8.2.1 == x4.2.1) && (x8.2.2.1 == x4.2.2.1))) && ((x8.2.2.2.1 == x4.2.2.2.1) && (x8.2.2.2.2.1 == x4.2.2.2.2))) then
                      ((((x9.1 == x6.1) && ((x9.2.1 == x6.2.1) && (x9.2.2.1 == x6.2.2.1))) && ((x9.2.2.2.1 == x6.2.2.2.1) && (x9.2.2.2.2.1 == x6.2.2.2.2))))
                    else
                      (false))
                  else
                    (false)))
              else
                (bif (((x5.1 == x4.1) && ((x5.2.1 == x4.2.1) && (x5.2.2.1 == x4.2.2.1))) && ((x5.2.2.2.1 == x4.2.2.2.1) && (x5.2.2.2.2.1 == x4.2.2.2.2))) then
                  (let x12 := F_ref06_Fresh (IntKind.i64.wrap (1 + x1))
                  bif (!x12) then
                    (bif (((x8.1 == x4.1) && ((x8.2.1 == x4.2.1) && (x8.2.2.1 == x4.2.2.1))) && ((x8.2.2.2.1 == x4.2.2.2.1) && (x8.2.2.2.2.1 == x4.2.2.2.2))) then
                      ((((x9.1 == x6.1) && ((x9.2.1 == x6.2.1) && (x9.2.2.1 == x6.2.2.1))) && ((x9.2.2.2.1 == x6.2.2.2.1) && (x9.2.2.2.2.1 == x6.2.2.2.2))))
                    else
                      (false))
                  else
                    (bif (((x7.1 == x6.1) && ((x7.2.1 == x6.2.1) && (x7.2.2.1 == x6.2.2.1))) && ((x7.2.2.2.1 == x6.2.2.2.1) && (x7.2.2.2.2.1 == x6.2.2.2.2))) then
                      (bif (((x8.1 == x4.1) && ((x8.2.1 == x4.2.1) && (x8.2.2.1 == x4.2.2.1))) && ((x8.2.2.2.1 == x4.2.2.2.1) && (x8.2.2.2.2.1 == x4.2.2.2.2))) then
                        ((((x9.1 == x6.1) && ((x9.2.1 == x6.2.1) && (x9.2.2.1 == x6.2.2.1))) && ((x9.2.2.2.1 == x6.2.2.2.1) && (x9.2.2.2.2.1 == x6.2.2.2.2))))
                      else
                        (false))
                    else
                      (false)))
                else
                  (false)))
            else
              (false))
          else
            (false))
        else
          (false))
      else
        (false))
    else
      (false) :=
  spellV (L := L_law09_PixelIdentities) (fun l => tru ((l).getD 0 undef)) (evF Tryd.prog [S_gen_Mod, S_gen_Max, S_ref06_Neutral, S_ref06_Fresh, S_gen_Pixel, S_pixel_Composite, S_law09_awake] 1000 7 (inL A_law09_PixelIdentities [.int .i64 p0, .int .i64 p1, .int .i64 p2, .int .i64 p3, .int .i64 p4, .int .i64 p5, .int .i64 p6, .int .i64 p7, .int .i64 p8, .int .i64 p9, .int .i64 p10, .int .i64 p11, .int .i64 p12])) (L_law09_PixelIdentities_is _) (by kernel_rfl)

/-! compositor/compositorlaw09.PixelOverIsAssociativeUpToRounding -/
def A_law09_PixelOverIsAssociativeUpToRounding : List PS := [.agg [.i .i64, .i .i64, .i .i64, .i .i64, .i .i64], .agg [.i .i64, .i .i64, .i .i64, .i .i64, .i .i64], .agg [.i .i64, .i .i64, .i .i64, .i .i64, .i .i64], .c (.i .i64)]
def R_law09_PixelOverIsAssociativeUpToRounding : RS := .one (.c (.b))
noncomputable def L_law09_PixelOverIsAssociativeUpToRounding : List Value → List Value := Classical.choose (veil fun vs => (evF Tryd.prog [S_gen_Max, S_gen_Pixel, S_pixel_Composite, S_law09_max2, S_law09_apart, S_law09_awake] 1000 8 (inL A_law09_PixelOverIsAssociativeUpToRounding vs)).outL)
theorem L_law09_PixelOverIsAssociativeUpToRounding_is (vs : List Value) : L_law09_PixelOverIsAssociativeUpToRounding vs = (evF Tryd.prog [S_gen_Max, S_gen_Pixel, S_pixel_Composite, S_law09_max2, S_law09_apart, S_law09_awake] 1000 8 (inL A_law09_PixelOverIsAssociativeUpToRounding vs)).outL := Classical.choose_spec (veil fun vs => (evF Tryd.prog [S_gen_Max, S_gen_Pixel, S_pixel_Composite, S_law09_max2, S_law09_apart, S_law09_awake] 1000 8 (inL A_law09_PixelOverIsAssociativeUpToRounding vs)).outL) vs
noncomputable def S_law09_PixelOverIsAssociativeUpToRounding : Sum := ⟨8, L_law09_PixelOverIsAssociativeUpToRounding, A_law09_PixelOverIsAssociativeUpToRounding, R_law09_PixelOverIsAssociativeUpToRounding⟩
theorem ok_law09_PixelOverIsAssociativeUpToRounding : SumOK Tryd.prog InvN S_law09_PixelOverIsAssociativeUpToRounding := sumOK_evV invN_stays (allOK_cons ok_gen_Max.any (allOK_cons ok_gen_Pixel (allOK_cons ok_pixel_Composite (allOK_cons ok_law09_max2 (allOK_cons ok_law09_apart (allOK_cons ok_law09_awake allOK_nil)))))) 1000 8 A_law09_PixelOverIsAssociativeUpToRounding R_law09_PixelOverIsAssociativeUpToRounding L_law09_PixelOverIsAssociativeUpToRounding_is (fun _ => by kernel_rfl)
noncomputable def F_law09_PixelOverIsAssociativeUpToRounding (p0 : Int) (p1 : Int) (p2 : Int) (p3 : Int) (p4 : Int) (p5 : Int) (p6 : Int) (p7 : Int) (p8 : Int) (p9 : Int) (p10 : Int) (p11 : Int) (p12 : Int) (p13 : Int) (p14 : Int) (p15 : Int) : Bool := tru ((L_law09_PixelOverIsAssociativeUpToRounding [.int .i64 p0, .int .i64 p1, .int .i64 p2, .int .i64 p3, .int .i64 p4, .int .i64 p5, .int .i64 p6, .int .i64 p7, .int .i64 p8, .int .i64 p9, .int .i64 p10, .int .i64 p11, .int .i64 p12, .int .i64 p13, .int .i64 p14, .int .i64 p15]).getD 0 undef)
theorem F_law09_PixelOverIsAssociativeUpToRounding_eq (p0 : Int) (p1 : Int) (p2 : Int) (p3 : Int) (p4 : Int) (p5 : Int) (p6 : Int) (p7 : Int) (p8 : Int) (p9 : Int) (p10 : Int) (p11 : Int) (p12 : Int) (p13 : Int) (p14 : Int) (p15 : Int) : F_law09_PixelOverIsAssociativeUpToRounding p0 p1 p2 p3 p4 p5 p6 p7 p8 p9 p10 p11 p12 p13 p14 p15 =
    let x0 := F_law09_awake
    bif (!x0) then
      (false)
    else
      (let x1 := F_gen_Max p15
      let x2 := F_gen_Pixel p0 p1 p2 p3 p4 x1
      let x3 := F_gen_Pixel p5 p6 p7 p8 p9 x1
      let x4 := F_gen_Pixel p10 p11 p12 p13 p14 x1
      let x5 := F_pixel_Composite 4 1 x1 x3.1 x3.2.1 x3.2.2.1 x3.2.2.2.1 x3.2.2.2.2 x4.1 x4.2.1 x4.2.2.1 x4.2.2.2.1 x4.2.2.2.2
      let x6 := F_pixel_Composite 4 1 x1 x2.1 x2.2.1 x2.2.2.1 x2.2.2.2.1 x2.2.2.2.2 x5.1 x5.2.1 x5.2.2.1 x5.2.2.2.1 x5.2.2.2.2.1
      bif (!x6.2.2.2.2.2) then
        (false)
      else
        (let x7 := F_pixel_Composite 4 1 x1 x2.1 x2.2.1 x2.2.2.1 x2.2.2.2.1 x2.2.2.2.2 x3.1 x3.2.1 x3.2.2.1 x3.2.2.2.1 x3.2.2.2.2
        let x8 := F_pixel_Composite 4 1 x1 x7.1 x7.2.1 x7.2.2.1 x7.2.2.2.1 x7.2.2.2.2.1 x4.1 x4.2.1 x4.2.2.1 x4.2.2.2.1 x4.2.2.2.2
        bif (!x8.2.2.2.2.2) then
          (false)
        else
          (bif (x2.2.2.2.1 == 0) then
            (bif (x3.2.2.2.1 == 0) then
              (bif (x4.2.2.2.1 == 0) then
                (bif (x2.2.2.2.2 == x2.2.2.2.1) then
                  (bif (x3.2.2.2.2 == x3.2.2.2.1) then
                    (let x9 := F_law09_apart x6.2.2.2.1 x8.2.2.2.1
                    let x10 := F_law09_apart x6.2.2.2.2.1 x8.2.2.2.2.1
                    let x11 := F_law09_max2 x9 x10
                    let x12 := F_law09_apart x6.1 x8.1
                    let x13 := F_law09_max2 x11 x12
                    let x14 := F_law09_apart x6.2.1 x8.2.1
                    let x15 := F_law09_max2 x13 x14
                    let x16 := F_law09_apart x6.2.2.1 x8.2.2.1
                    let x17 := F_law09_max2 x15 x16
                    bif (decide (x17 ≤ 2)) then
                      (bif (!(x4.2.2.2.2 == x4.2.2.2.1)) then
                        (true)
                      else
                        ((x17 == 0)))
                    else
                      (false))
                  else
                    (let x18 := F_law09_apart x6.2.2.2.1 x8.2.2.2.1
                    let x19 := F_law09_apart x6.2.2.2.2.1 x8.2.2.2.2.1
                    let x20 := F_law09_max2 x18 x19
                    let x21 := F_law09_apart x6.1 x8.1
                    let x22 := F_law09_max2 x20 x21
                    let x23 := F_law09_apart x6.2.1 x8.2.1
                    let x24 := F_law09_max2 x22 x23
                    let x25 := F_law09_apart x6.2.2.1 x8.2.2.1
                    let x26 := F_law09_max2 x24 x25
                    bif (decide (x26 ≤ 2)) then
                      (true)
                    else
                      (false)))
                else
                  (let x27 := F_law09_apart x6.2.2.2.1 x8.2.2.2.1
                  let x28 := F_law09_apart x6.2.2.2.2.1 x8.2.2.2.2.1
                  let x29 := F_law09_max2 x27 x28
                  let x30 := F_law09_apart x6.1 x8.1
                  let x31 := F_law09_max2 x29 x30
                  let x32 := F_law09_apart x6.2.1 x8.2.1
                  let x33 := F_law09_max2 x31 x32
                  let x34 := F_law09_apart x6.2.2.1 x8.2.2.1
                  let x35 := F_law09_max2 x33 x34
                  bif (decide (x35 ≤ 2)) then
                    (true)
                  else
                    (false)))
              else
                (bif (x4.2.2.2.1 == x1) then
                  (bif (x2.2.2.2.2 == x2.2.2.2.1) then
                    (bif (x3.2.2.2.2 == x3.2.2.2.1) then
                      (let x36 := F_law09_apart x6.2.2.2.1 x8.2.2.2.1
                      let x37 := F_law09_apart x6.2.2.2.2.1 x8.2.2.2.2.1
                      let x38 := F_law09_max2 x36 x37
                      let x39 := F_law09_apart x6.1 x8.1
                      let x40 := F_law09_max2 x38 x39
                      let x41 := F_law09_apart x6.2.1 x8.2.1
                      let x42 := F_law09_max2 x40 x41
                      let x43 := F_law09_apart x6.2.2.1 x8.2.2.1
                      let x44 := F_law09_max2 x42 x43
                      bif (decide (x44 ≤ 2)) then
                        (bif (!(x4.2.2.2.2 == x4.2.2.2.1)) then
                          (true)
                        else
                          ((x44 == 0)))
                      else
                        (false))
                    else
                      (let x45 := F_law09_apart x6.2.2.2.1 x8.2.2.2.1
                      let x46 := F_law09_apart x6.2.2.2.2.1 x8.2.2.2.2.1
                      let x47 := F_law09_max2 x45 x46
                      let x48 := F_law09_apart x6.1 x8.1
                      let x49 := F_law09_max2 x47 x48
                      let x50 := F_law09_apart x6.2.1 x8.2.1
                      let x51 := F_law09_max2 x49 x50
                      let x52 := F_law09_apart x6.2.2.1 x8.2.2.1
                      let x53 := F_law09_max2 x51 x52
                      bif (decide (x53 ≤ 2)) then
                        (true)
                      else
                        (false)))
                  else
                    (let x54 := F_law09_apart x6.2.2.2.1 x8.2.2.2.1
                    let x55 := F_law09_apart x6.2.2.2.2.1 x8.2.2.2.2.1
                    let x56 := F_law09_max2 x54 x55
                    let x57 := F_law09_apart x6.1 x8.1
                    let x58 := F_law09_max2 x56 x57
                    let x59 := F_law09_apart x6.2.1 x8.2.1
                    let x60 := F_law09_max2 x58 x59
                    let x61 := F_law09_apart x6.2.2.1 x8.2.2.1
                    let x62 := F_law09_max2 x60 x61
                    bif (decide (x62 ≤ 2)) then
                      (true)
                    else
                      (false)))
                else
                  (let x63 := F_law09_apart x6.2.2.2.1 x8.2.2.2.1
                  let x64 := F_law09_apart x6.2.2.2.2.1 x8.2.2.2.2.1
                  let x65 := F_law09_max2 x63 x64
                  let x66 := F_law09_apart x6.1 x8.1
                  let x67 := F_law09_max2 x65 x66
                  let x68 := F_law09_apart x6.2.1 x8.2.1
                  let x69 := F_law09_max2 x67 x68
                  let x70 := F_law09_apart x6.2.2.1 x8.2.2.1
                  let x71 := F_law09_max2 x69 x70
                  bif (decide (x71 ≤ 2)) then
                    (true)
                  else
                    (false))))
            else
              (bif (x3.2.2.2.1 == x1) then
                (bif (x4.2.2.2.1 == 0) then
                  (bif (x2.2.2.2.2 == x2.2.2.2.1) then
                    (bif (x3.2.2.2.2 == x3.2.2.2.1) then
                      (let x72 := F_law09_apart x6.2.2.2.1 x8.2.2.2.1
                      let x73 := F_law09_apart x6.2.2.2.2.1 x8.2.2.2.2.1
                      let x74 := F_law09_max2 x72 x73
                      let x75 := F_law09_apart x6.1 x8.1
                      let x76 := F_law09_max2 x74 x75
                      let x77 := F_law09_apart x6.2.1 x8.2.1
                      let x78 := F_law09_max2 x76 x77
                      let x79 := F_law09_apart x6.2.2.1 x8.2.2.1
                      let x80 := F_law09_max2 x78 x79
                      bif (decide (x80 ≤ 2)) then
                        (bif (!(x4.2.2.2.2 == x4.2.2.2.1)) then
                          (true)
                        else
                          ((x80 == 0)))
                      else
                        (false))
                    else
                      (let x81 := F_law09_apart x6.2.2.2.1 x8.2.2.2.1
                      let x82 := F_law09_apart x6.2.2.2.2.1 x8.2.2.2.2.1
                      let x83 := F_law09_max2 x81 x82
                      let x84 := F_law09_apart x6.1 x8.1
                      let x85 := F_law09_max2 x83 x84
                      let x86 := F_law09_apart x6.2.1 x8.2.1
                      let x87 := F_law09_max2 x85 x86
                      let x88 := F_law09_apart x6.2.2.1 x8.2.2.1
                      let x89 := F_law09_max2 x87 x88
                      bif (decide (x89 ≤ 2)) then
                        (true)
                      else
                        (false)))
                  else
                    (let x90 := F_law09_apart x6.2.2.2.1 x8.2.2.2.1
                    let x91 := F_law09_apart x6.2.2.2.2.1 x8.2.2.2.2.1
                    let x92 := F_law09_max2 x90 x91
                    let x93 := F_law09_apart x6.1 x8.1
                    let x94 := F_law09_max2 x92 x93
                    let x95 := F_law09_apart x6.2.1 x8.2.1
                    let x96 := F_law09_max2 x94 x95
                    let x97 := F_law09_apart x6.2.2.1 x8.2.2.1
                    let x98 := F_law09_max2 x96 x97
                    bif (decide (x98 ≤ 2)) then
                      (true)
                    else
                      (false)))
                else
                  (bif (x4.2.2.2.1 == x1) then
                    (bif (x2.2.2.2.2 == x2.2.2.2.1) then
                      (bif (x3.2.2.2.2 == x3.2.2.2.1) then
                        (let x99 := F_law09_apart x6.2.2.2.1 x8.2.2.2.1
                        let x100 := F_law09_apart x6.2.2.2.2.1 x8.2.2.2.2.1
                        let x101 := F_law09_max2 x99 x100
                        let x102 := F_law09_apart x6.1 x8.1
                        let x103 := F_law09_max2 x101 x102
                        let x104 := F_law09_apart x6.2.1 x8.2.1
                        let x105 := F_law09_max2 x103 x104
                        let x106 := F_law09_apart x6.2.2.1 x8.2.2.1
                        let x107 := F_law09_max2 x105 x106
                        bif (decide (x107 ≤ 2)) then
                          (bif (!(x4.2.2.2.2 == x4.2.2.2.1)) then
                            (true)
                          else
                            ((x107 == 0)))
                        else
                          (false))
                      else
                        (let x108 := F_law09_apart x6.2.2.2.1 x8.2.2.2.1
                        let x109 := F_law09_apart x6.2.2.2.2.1 x8.2.2.2.2.1
                        let x110 := F_law09_max2 x108 x109
                        let x111 := F_law09_apart x6.1 x8.1
                        let x112 := F_law09_max2 x110 x111
                        let x113 := F_law09_apart x6.2.1 x8.2.1
                        let x114 := F_law09_max2 x112 x113
                        let x115 := F_law09_apart x6.2.2.1 x8.2.2.1
                        let x116 := F_law09_max2 x114 x115
                        bif (decide (x116 ≤ 2)) then
                          (true)
                        else
                          (false)))
                    else
                      (let x117 := F_law09_apart x6.2.2.2.1 x8.2.2.2.1
                      let x118 := F_law09_apart x6.2.2.2.2.1 x8.2.2.2.2.1
                      let x119 := F_law09_max2 x117 x118
                      let x120 := F_law09_apart x6.1 x8.1
                      let x121 := F_law09_max2 x119 x120
                      let x122 := F_law09_apart x6.2.1 x8.2.1
                      let x123 := F_law09_max2 x121 x122
                      let x124 := F_law09_apart x6.2.2.1 x8.2.2.1
                      let x125 := F_law09_max2 x123 x124
                      bif (decide (x125 ≤ 2)) then
                        (true)
                      else
                        (false)))
                  else
                    (let x126 := F_law09_apart x6.2.2.2.1 x8.2.2.2.1
                    let x127 := F_law09_apart x6.2.2.2.2.1 x8.2.2.2.2.1
                    let x128 := F_law09_max2 x126 x127
                    let x129 := F_law09_apart x6.1 x8.1
                    let x130 := F_law09_max2 x128 x129
                    let x131 := F_law09_apart x6.2.1 x8.2.1
                    let x132 := F_law09_max2 x130 x131
                    let x133 := F_law09_apart x6.2.2.1 x8.2.2.1
                    let x134 := F_law09_max2 x132 x133
                    bif (decide (x134 ≤ 2)) then
                      (true)
                    else
                      (false))))
              else
                (let x135 := F_law09_apart x6.2.2.2.1 x8.2.2.2.1
                let x136 := F_law09_apart x6.2.2.2.2.1 x8.2.2.2.2.1
                let x137 := F_law09_max2 x135 x136
                let x138 := F_law09_apart x6.1 x8.1
                let x139 := F_law09_max2 x137 x138
                let x140 := F_law09_apart x6.2.1 x8.2.1
                let x141 := F_law09_max2 x139 x140
                let x142 := F_law09_apart x6.2.2.1 x8.2.2.1
                let x143 := F_law09_max2 x141 x142
                bif (decide (x143 ≤ 2)) then
                  (true)
                else
                  (false))))
          else
            (bif (x2.2.2.2.1 == x1) then
              (bif (x3.2.2.2.1 == 0) then
                (bif (x4.2.2.2.1 == 0) then
                  (bif (x2.2.2.2.2 == x2.2.2.2.1) then
                    (bif (x3.2.2.2.2 == x3.2.2.2.1) then
                      (let x144 := F_law09_apart x6.2.2.2.1 x8.2.2.2.1
                      let x145 := F_law09_apart x6.2.2.2.2.1 x8.2.2.2.2.1
                      let x146 := F_law09_max2 x144 x145
                      let x147 := F_law09_apart x6.1 x8.1
                      let x148 := F_law09_max2 x146 x147
                      let x149 := F_law09_apart x6.2.1 x8.2.1
                      let x150 := F_law09_max2 x148 x149
                      let x151 := F_law09_apart x6.2.2.1 x8.2.2.1
                      let x152 := F_law09_max2 x150 x151
                      bif (decide (x152 ≤ 2)) then
                        (bif (!(x4.2.2.2.2 == x4.2.2.2.1)) then
                          (true)
                        else
                          ((x152 == 0)))
                      else
                        (false))
                    else
                      (let x153 := F_law09_apart x6.2.2.2.1 x8.2.2.2.1
                      let x154 := F_law09_apart x6.2.2.2.2.1 x8.2.2.2.2.1
                      let x155 := F_law09_max2 x153 x154
                      let x156 := F_law09_apart x6.1 x8.1
                      let x157 := F_law09_max2 x155 x156
                      let x158 := F_law09_apart x6.2.1 x8.2.1
                      let x159 := F_law09_max2 x157 x158
                      let x160 := F_law09_apart x6.2.2.1 x8.2.2.1
                      let x161 := F_law09_max2 x159 x160
                      bif (decide (x161 ≤ 2)) then
                        (true)
                      else
                        (false)))
                  else
                    (let x162 := F_law09_apart x6.2.2.2.1 x8.2.2.2.1
                    let x163 := F_law09_apart x6.2.2.2.2.1 x8.2.2.2.2.1
                    let x164 := F_law09_max2 x162 x163
                    let x165 := F_law09_apart x6.1 x8.1
                    let x166 := F_law09_max2 x164 x165
                    let x167 := F_law09_apart x6.2.1 x8.2.1
                    let x168 := F_law09_max2 x166 x167
                    let x169 := F_law09_apart x6.2.2.1 x8.2.2.1
                    let x170 := F_law09_max2 x168 x169
                    bif (decide (x170 ≤ 2)) then
                      (true)
                    else
                      (false)))
                else
                  (bif (x4.2.2.2.1 == x1) then
                    (bif (x2.2.2.2.2 == x2.2.2.2.1) then
                      (bif (x3.2.2.2.2 == x3.2.2.2.1) then
                        (let x171 := F_law09_apart x6.2.2.2.1 x8.2.2.2.1
                        let x172 := F_law09_apart x6.2.2.2.2.1 x8.2.2.2.2.1
                        let x173 := F_law09_max2 x171 x172
                        let x174 := F_law09_apart x6.1 x8.1
                        let x175 := F_law09_max2 x173 x174
                        let x176 := F_law09_apart x6.2.1 x8.2.1
                        let x177 := F_law09_max2 x175 x176
                        let x178 := F_law09_apart x6.2.2.1 x8.2.2.1
                        let x179 := F_law09_max2 x177 x178
                        bif (decide (x179 ≤ 2)) then
                          (bif (!(x4.2.2.2.2 == x4.2.2.2.1)) then
                            (true)
                          else
                            ((x179 == 0)))
                        else
                          (false))
                      else
                        (let x180 := F_law09_apart x6.2.2.2.1 x8.2.2.2.1
                        let x181 := F_law09_apart x6.2.2.2.2.1 x8.2.2.2.2.1
                        let x182 := F_law09_max2 x180 x181
                        let x183 := F_law09_apart x6.1 x8.1
                        let x184 := F_law09_max2 x182 x183
                        let x185 := F_law09_apart x6.2.1 x8.2.1
                        let x186 := F_law09_max2 x184 x185
                        let x187 := F_law09_apart x6.2.2.1 x8.2.2.1
                        let x188 := F_law09_max2 x186 x187
                        bif (decide (x188 ≤ 2)) then
                          (true)
                        else
                          (false)))
                    else
                      (let x189 := F_law09_apart x6.2.2.2.1 x8.2.2.2.1
                      let x190 := F_law09_apart x6.2.2.2.2.1 x8.2.2.2.2.1
                      let x191 := F_law09_max2 x189 x190
                      let x192 := F_law09_apart x6.1 x8.1
                      let x193 := F_law09_max2 x191 x192
                      let x194 := F_law09_apart x6.2.1 x8.2.1
                      let x195 := F_law09_max2 x193 x194
                      let x196 := F_law09_apart x6.2.2.1 x8.2.2.1
                      let x197 := F_law09_max2 x195 x196
                      bif (decide (x197 ≤ 2)) then
                        (true)
                      else
                        (false)))
                  else
                    (let x198 := F_law09_apart x6.2.2.2.1 x8.2.2.2.1
                    let x199 := F_law09_apart x6.2.2.2.2.1 x8.2.2.2.2.1
                    let x200 := F_law09_max2 x198 x199
                    let x201 := F_law09_apart x6.1 x8.1
                    let x202 := F_law09_max2 x200 x201
                    let x203 := F_law09_apart x6.2.1 x8.2.1
                    let x204 := F_law09_max2 x202 x203
                    let x205 := F_law09_apart x6.2.2.1 x8.2.2.1
                    let x206 := F_law09_max2 x204 x205
                    bif (decide (x206 ≤ 2)) then
                      (true)
                    else
                      (false))))
              else
                (bif (x3.2.2.2.1 == x1) then
                  (bif (x4.2.2.2.1 == 0) then
                    (bif (x2.2.2.2.2 == x2.2.2.2.1) then
                      (bif (x3.2.2.2.2 == x3.2.2.2.1) then
                        (let x207 := F_law09_apart x6.2.2.2.1 x8.2.2.2.1
                        let x208 := F_law09_apart x6.2.2.2.2.1 x8.2.2.2.2.1
                        let x209 := F_law09_max2 x207 x208
                        let x210 := F_law09_apart x6.1 x8.1
                        let x211 := F_law09_max2 x209 x210
                        let x212 := F_law09_apart x6.2.1 x8.2.1
                        let x213 := F_law09_max2 x211 x212
                        let x214 := F_law09_apart x6.2.2.1 x8.2.2.1
                        let x215 := F_law09_max2 x213 x214
                        bif (decide (x215 ≤ 2)) then
                          (bif (!(x4.2.2.2.2 == x4.2.2.2.1)) then
                            (true)
                          else
                            ((x215 == 0)))
                        else
                          (false))
                      else
                        (let x216 := F_law09_apart x6.2.2.2.1 x8.2.2.2.1
                        let x217 := F_law09_apart x6.2.2.2.2.1 x8.2.2.2.2.1
                        let x218 := F_law09_max2 x216 x217
                        let x219 := F_law09_apart x6.1 x8.1
                        let x220 := F_law09_max2 x218 x219
                        let x221 := F_law09_apart x6.2.1 x8.2.1
                        let x222 := F_law09_max2 x220 x221
                        let x223 := F_law09_apart x6.2.2.1 x8.2.2.1
                        let x224 := F_law09_max2 x222 x223
                        bif (decide (x224 ≤ 2)) then
                          (true)
                        else
                          (false)))
                    else
                      (let x225 := F_law09_apart x6.2.2.2.1 x8.2.2.2.1
                      let x226 := F_law09_apart x6.2.2.2.2.1 x8.2.2.2.2.1
                      let x227 := F_law09_max2 x225 x226
                      let x228 := F_law09_apart x6.1 x8.1
                      let x229 := F_law09_max2 x227 x228
                      let x230 := F_law09_apart x6.2.1 x8.2.1
                      let x231 := F_law09_max2 x229 x230
                      let x232 := F_law09_apart x6.2.2.1 x8.2.2.1
                      let x233 := F_law09_max2 x231 x232
                      bif (decide (x233 ≤ 2)) then
                        (true)
                      else
                        (false)))
                  else
                    (bif (x4.2.2.2.1 == x1) then
                      (bif (x2.2.2.2.2 == x2.2.2.2.1) then
                        (bif (x3.2.2.2.2 == x3.2.2.2.1) then
                          (let x234 := F_law09_apart x6.2.2.2.1 x8.2.2.2.1
                          let x235 := F_law09_apart x6.2.2.2.2.1 x8.2.2.2.2.1
                          let x236 := F_law09_max2 x234 x235
                          let x237 := F_law09_apart x6.1 x8.1
                          let x238 := F_law09_max2 x236 x237
                          let x239 := F_law09_apart x6.2.1 x8.2.1
                          let x240 := F_law09_max2 x238 x239
                          let x241 := F_law09_apart x6.2.2.1 x8.2.2.1
                          let x242 := F_law09_max2 x240 x241
                          bif (decide (x242 ≤ 2)) then
                            (bif (!(x4.2.2.2.2 == x4.2.2.2.1)) then
                              (true)
                            else
                              ((x242 == 0)))
                          else
                            (false))
                        else
                          (let x243 := F_law09_apart x6.2.2.2.1 x8.2.2.2.1
                          let x244 := F_law09_apart x6.2.2.2.2.1 x8.2.2.2.2.1
                          let x245 := F_law09_max2 x243 x244
                          let x246 := F_law09_apart x6.1 x8.1
                          let x247 := F_law09_max2 x245 x246
                          let x248 := F_law09_apart x6.2.1 x8.2.1
                          let x249 := F_law09_max2 x247 x248
                          let x250 := F_law09_apart x6.2.2.1 x8.2.2.1
                          let x251 := F_law09_max2 x249 x250
                          bif (decide (x251 ≤ 2)) then
                            (true)
                          else
                            (false)))
                      else
                        (let x252 := F_law09_apart x6.2.2.2.1 x8.2.2.2.1
                        let x253 := F_law09_apart x6.2.2.2.2.1 x8.2.2.2.2.1
                        let x254 := F_law09_max2 x252 x253
                        let x255 := F_law09_apart x6.1 x8.1
                        let x256 := F_law09_max2 x254 x255
                        let x257 := F_law09_apart x6.2.1 x8.2.1
                        let x258 := F_law09_max2 x256 x257
                        let x259 := F_law09_apart x6.2.2.1 x8.2.2.1
                        let x260 := F_law09_max2 x258 x259
                        bif (decide (x260 ≤ 2)) then
                          (true)
                        else
                          (false)))
                    else
                      (let x261 := F_law09_apart x6.2.2.2.1 x8.2.2.2.1
                      let x262 := F_law09_apart x6.2.2.2.2.1 x8.2.2.2.2.1
                      let x263 := F_law09_max2 x261 x262
                      let x264 := F_law09_apart x6.1 x8.1
                      let x265 := F_law09_max2 x263 x264
                      let x266 := F_law09_apart x6.2.1 x8.2.1
                      let x267 := F_law09_max2 x265 x266
                      let x268 := F_law09_apart x6.2.2.1 x8.2.2.1
                      let x269 := F_law09_max2 x267 x268
                      bif (decide (x269 ≤ 2)) then
                        (true)
                      else
                        (false))))
                else
                  (let x270 := F_law09_apart x6.2.2.2.1 x8.2.2.2.1
                  let x271 := F_law09_apart x6.2.2.2.2.1 x8.2.2.2.2.1
                  let x272 := F_law09_max2 x270 x271
                  let x273 := F_law09_apart x6.1 x8.1
                  let x274 := F_law09_max2 x272 x273
                  let x275 := F_law09_apart x6.2.1 x8.2.1
                  let x276 := F_law09_max2 x274 x275
                  let x277 := F_law09_apart x6.2.2.1 x8.2.2.1
                  let x278 := F_law09_max2 x276 x277
                  bif (decide (x278 ≤ 2)) then
                    (true)
                  else
                    (false))))
            else
              (let x279 := F_law09_apart x6.2.2.2.1 x8.2.2.2.1
              let x280 := F_law09_apart x6.2.2.2.2.1 x8.2.2.2.2.1
              let x281 := F_law09_max2 x279 x280
              let x282 := F_law09_apart x6.1 x8.1
              let x283 := F_law09_max2 x281 x282
              let x284 := F_law09_apart x6.2.1 x8.2.1
              let x285 := F_law09_max2 x283 x284
              let x286 := F_law09_apart x6.2.2.1 x8.2.2.1
              let x287 := F_law09_max2 x285 x286
              bif (decide (x287 ≤ 2)) then
                (true)
              else
                (false)))))) :=
  spellV (L := L_law09_PixelOverIsAssociativeUpToRounding) (fun l => tru ((l).getD 0 undef)) (evF Tryd.prog [S_gen_Max, S_gen_Pixel, S_pixel_Composite, S_law09_max2, S_law09_apart, S_law09_awake] 1000 8 (inL A_law09_PixelOverIsAssociativeUpToRounding [.int .i64 p0, .int .i64 p1, .int .i64 p2, .int .i64 p3, .int .i64 p4, .int .i64 p5, .int .i64 p6, .int .i64 p7, .int .i64 p8, .int .i64 p9, .int .i64 p10, .int .i64 p11, .int .i64 p12, .int .i64 p13, .int .i64 p14, .int .i64 p15])) (L_law09_PixelOverIsAssociativeUpToRounding_is _) (by kernel_rfl)
end Go.Proofs.YtnfloafopnldpaaDoor
