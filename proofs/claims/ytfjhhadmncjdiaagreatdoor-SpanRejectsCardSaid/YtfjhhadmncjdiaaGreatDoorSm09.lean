/- What the functions of chapter 09 compute. Printed by a program (gen/Gen.lean); what each function does is told by the evaluator, and the kernel checks it. No condition. -/
import Derived.Test.YtfjhhadmncjdiaaGreatDoorSm08
import Derived.KernelRfl
namespace Go.Proofs.YtfjhhadmncjdiaaGreatDoor
open Go.RowKit

/-! compositor/sample.Valid -/
def A_sample_Valid : List PS := [.agg [.i .u16, .i .u16, .i .u16, .i .u16, .i .u16], .c (.i .u16)]
def R_sample_Valid : RS := .one (.c (.b))
noncomputable def L_sample_Valid : List Value → List Value := Classical.choose (veil fun vs => (evF Tryz.prog [] 1000 29 (inL A_sample_Valid vs)).outL)
theorem L_sample_Valid_is (vs : List Value) : L_sample_Valid vs = (evF Tryz.prog [] 1000 29 (inL A_sample_Valid vs)).outL := Classical.choose_spec (veil fun vs => (evF Tryz.prog [] 1000 29 (inL A_sample_Valid vs)).outL) vs
noncomputable def S_sample_Valid : Sum := ⟨29, L_sample_Valid, A_sample_Valid, R_sample_Valid⟩
theorem ok_sample_Valid : SumOK Tryz.prog InvN S_sample_Valid := sumOK_evV invN_stays allOK_nil 1000 29 A_sample_Valid R_sample_Valid L_sample_Valid_is (fun _ => by kernel_rfl)
noncomputable def F_sample_Valid (p0 : Int) (p1 : Int) (p2 : Int) (p3 : Int) (p4 : Int) (p5 : Int) : Bool := tru ((L_sample_Valid [.int .u16 p0, .int .u16 p1, .int .u16 p2, .int .u16 p3, .int .u16 p4, .int .u16 p5]).getD 0 undef)
theorem F_sample_Valid_eq (p0 : Int) (p1 : Int) (p2 : Int) (p3 : Int) (p4 : Int) (p5 : Int) : F_sample_Valid p0 p1 p2 p3 p4 p5 =
    bif (decide (p0 > p3)) then
      (false)
    else
      (bif (decide (p1 > p3)) then
        (false)
      else
        (bif (decide (p2 > p3)) then
          (false)
        else
          (bif (decide (p3 ≤ p4)) then
            ((decide (p4 ≤ p5)))
          else
            (false)))) :=
  spellV (L := L_sample_Valid) (fun l => tru ((l).getD 0 undef)) (evF Tryz.prog [] 1000 29 (inL A_sample_Valid [.int .u16 p0, .int .u16 p1, .int .u16 p2, .int .u16 p3, .int .u16 p4, .int .u16 p5])) (L_sample_Valid_is _) (by kernel_rfl)

/-! compositor/compositorref01.ValidPixel -/
def A_ref01_ValidPixel : List PS := [.agg [.i .u16, .i .u16, .i .u16, .i .u16, .i .u16], .c (.i .u16)]
def R_ref01_ValidPixel : RS := .one (.c (.b))
noncomputable def L_ref01_ValidPixel : List Value → List Value := Classical.choose (veil fun vs => (evF Tryz.prog [] 1000 44 (inL A_ref01_ValidPixel vs)).outL)
theorem L_ref01_ValidPixel_is (vs : List Value) : L_ref01_ValidPixel vs = (evF Tryz.prog [] 1000 44 (inL A_ref01_ValidPixel vs)).outL := Classical.choose_spec (veil fun vs => (evF Tryz.prog [] 1000 44 (inL A_ref01_ValidPixel vs)).outL) vs
noncomputable def S_ref01_ValidPixel : Sum := ⟨44, L_ref01_ValidPixel, A_ref01_ValidPixel, R_ref01_ValidPixel⟩
theorem ok_ref01_ValidPixel : SumOK Tryz.prog InvN S_ref01_ValidPixel := sumOK_evV invN_stays allOK_nil 1000 44 A_ref01_ValidPixel R_ref01_ValidPixel L_ref01_ValidPixel_is (fun _ => by kernel_rfl)
noncomputable def F_ref01_ValidPixel (p0 : Int) (p1 : Int) (p2 : Int) (p3 : Int) (p4 : Int) (p5 : Int) : Bool := tru ((L_ref01_ValidPixel [.int .u16 p0, .int .u16 p1, .int .u16 p2, .int .u16 p3, .int .u16 p4, .int .u16 p5]).getD 0 undef)
theorem F_ref01_ValidPixel_eq (p0 : Int) (p1 : Int) (p2 : Int) (p3 : Int) (p4 : Int) (p5 : Int) : F_ref01_ValidPixel p0 p1 p2 p3 p4 p5 =
    bif (decide (p0 ≤ p3)) then
      (bif (decide (p1 ≤ p3)) then
        (bif (decide (p2 ≤ p3)) then
          (bif (decide (p3 ≤ p4)) then
            ((decide (p4 ≤ p5)))
          else
            (false))
        else
          (false))
      else
        (false))
    else
      (false) :=
  spellV (L := L_ref01_ValidPixel) (fun l => tru ((l).getD 0 undef)) (evF Tryz.prog [] 1000 44 (inL A_ref01_ValidPixel [.int .u16 p0, .int .u16 p1, .int .u16 p2, .int .u16 p3, .int .u16 p4, .int .u16 p5])) (L_ref01_ValidPixel_is _) (by kernel_rfl)

/-! compositor/compositorref06.Alpha -/
def A_ref06_Alpha : List PS := [.c (.i .i64), .c (.i .u16), .c (.i .u16), .c (.i .u16)]
def R_ref06_Alpha : RS := .one (.c (.i .u16))
noncomputable def L_ref06_Alpha : List Value → List Value := Classical.choose (veil fun vs => (evF Tryz.prog [S_ref01_Half, S_ref06_Factors] 1000 45 (inL A_ref06_Alpha vs)).outL)
theorem L_ref06_Alpha_is (vs : List Value) : L_ref06_Alpha vs = (evF Tryz.prog [S_ref01_Half, S_ref06_Factors] 1000 45 (inL A_ref06_Alpha vs)).outL := Classical.choose_spec (veil fun vs => (evF Tryz.prog [S_ref01_Half, S_ref06_Factors] 1000 45 (inL A_ref06_Alpha vs)).outL) vs
noncomputable def S_ref06_Alpha : Sum := ⟨45, L_ref06_Alpha, A_ref06_Alpha, R_ref06_Alpha⟩
theorem ok_ref06_Alpha : SumOK Tryz.prog InvN S_ref06_Alpha := sumOK_evV invN_stays (allOK_cons ok_ref01_Half.any (allOK_cons ok_ref06_Factors allOK_nil)) 1000 45 A_ref06_Alpha R_ref06_Alpha L_ref06_Alpha_is (fun _ => by kernel_rfl)
noncomputable def F_ref06_Alpha (p0 : Int) (p1 : Int) (p2 : Int) (p3 : Int) : Int := num ((L_ref06_Alpha [.int .i64 p0, .int .u16 p1, .int .u16 p2, .int .u16 p3]).getD 0 undef)
theorem F_ref06_Alpha_eq (p0 : Int) (p1 : Int) (p2 : Int) (p3 : Int) : F_ref06_Alpha p0 p1 p2 p3 =
    let x0 := F_ref06_Factors p0 p1 p2 p3
    let x1 := F_ref01_Half (IntKind.u64.wrap ((IntKind.u64.wrap (x0.1 * p1)) + (IntKind.u64.wrap (x0.2.1 * p2)))) p3
    (IntKind.u16.wrap x1) :=
  spellV (L := L_ref06_Alpha) (fun l => num ((l).getD 0 undef)) (evF Tryz.prog [S_ref01_Half, S_ref06_Factors] 1000 45 (inL A_ref06_Alpha [.int .i64 p0, .int .u16 p1, .int .u16 p2, .int .u16 p3])) (L_ref06_Alpha_is _) (by kernel_rfl)

/-! compositor/compositorref06.Shape -/
def A_ref06_Shape : List PS := [.c (.i .i64), .c (.i .u16), .c (.i .u16), .c (.i .u16)]
def R_ref06_Shape : RS := .one (.c (.i .u16))
noncomputable def L_ref06_Shape : List Value → List Value := Classical.choose (veil fun vs => (evF Tryz.prog [S_ref01_Half, S_ref06_IsOp] 1000 46 (inL A_ref06_Shape vs)).outL)
theorem L_ref06_Shape_is (vs : List Value) : L_ref06_Shape vs = (evF Tryz.prog [S_ref01_Half, S_ref06_IsOp] 1000 46 (inL A_ref06_Shape vs)).outL := Classical.choose_spec (veil fun vs => (evF Tryz.prog [S_ref01_Half, S_ref06_IsOp] 1000 46 (inL A_ref06_Shape vs)).outL) vs
noncomputable def S_ref06_Shape : Sum := ⟨46, L_ref06_Shape, A_ref06_Shape, R_ref06_Shape⟩
theorem ok_ref06_Shape : SumOK Tryz.prog InvN S_ref06_Shape := sumOK_evV invN_stays (allOK_cons ok_ref01_Half.any (allOK_cons ok_ref06_IsOp allOK_nil)) 1000 46 A_ref06_Shape R_ref06_Shape L_ref06_Shape_is (fun _ => by kernel_rfl)
noncomputable def F_ref06_Shape (p0 : Int) (p1 : Int) (p2 : Int) (p3 : Int) : Int := num ((L_ref06_Shape [.int .i64 p0, .int .u16 p1, .int .u16 p2, .int .u16 p3]).getD 0 undef)
theorem F_ref06_Shape_eq (p0 : Int) (p1 : Int) (p2 : Int) (p3 : Int) : F_ref06_Shape p0 p1 p2 p3 =
    let x0 := F_ref06_IsOp p0
    bif (!x0) then
      (0)
    else
      (bif (decide (p1 > p3)) then
        (0)
      else
        (bif (decide (p2 > p3)) then
          (0)
        else
          (bif (p0 == 2) then
            (p1)
          else
            (bif (p0 == 8) then
              (p1)
            else
              (bif (p0 == 11) then
                (p1)
              else
                (bif (p0 == 3) then
                  (p2)
                else
                  (bif (p0 == 9) then
                    (p2)
                  else
                    (bif (p0 == 10) then
                      (p2)
                    else
                      (bif (p0 == 4) then
                        (let x1 := F_ref01_Half (IntKind.u64.wrap ((IntKind.u64.wrap (p3 * p1)) + (IntKind.u64.wrap ((IntKind.u64.wrap (p3 - p1)) * p2)))) p3
                        (IntKind.u16.wrap x1))
                      else
                        (bif (p0 == 5) then
                          (let x2 := F_ref01_Half (IntKind.u64.wrap ((IntKind.u64.wrap (p3 * p1)) + (IntKind.u64.wrap ((IntKind.u64.wrap (p3 - p1)) * p2)))) p3
                          (IntKind.u16.wrap x2))
                        else
                          (bif (p0 == 12) then
                            (let x3 := F_ref01_Half (IntKind.u64.wrap ((IntKind.u64.wrap (p3 * p1)) + (IntKind.u64.wrap ((IntKind.u64.wrap (p3 - p1)) * p2)))) p3
                            (IntKind.u16.wrap x3))
                          else
                            (bif (p0 == 6) then
                              (let x4 := F_ref01_Half (IntKind.u64.wrap (p1 * p2)) p3
                              (IntKind.u16.wrap x4))
                            else
                              (bif (p0 == 7) then
                                (let x5 := F_ref01_Half (IntKind.u64.wrap (p1 * p2)) p3
                                (IntKind.u16.wrap x5))
                              else
                                (0)))))))))))))) :=
  spellV (L := L_ref06_Shape) (fun l => num ((l).getD 0 undef)) (evF Tryz.prog [S_ref01_Half, S_ref06_IsOp] 1000 46 (inL A_ref06_Shape [.int .i64 p0, .int .u16 p1, .int .u16 p2, .int .u16 p3])) (L_ref06_Shape_is _) (by kernel_rfl)



/-! compositor/compositorgen.Pixel -/
def A_gen_Pixel : List PS := [.agg [.i .i64, .i .i64, .i .i64, .i .i64, .i .i64], .c (.i .u16)]
def R_gen_Pixel : RS := .one (.agg [.i .u16, .i .u16, .i .u16, .i .u16, .i .u16])
noncomputable def L_gen_Pixel : List Value → List Value := Classical.choose (veil fun vs => (evF Tryz.prog [S_gen_Mod, S_gen_Sample] 1000 13 (inL A_gen_Pixel vs)).outL)
theorem L_gen_Pixel_is (vs : List Value) : L_gen_Pixel vs = (evF Tryz.prog [S_gen_Mod, S_gen_Sample] 1000 13 (inL A_gen_Pixel vs)).outL := Classical.choose_spec (veil fun vs => (evF Tryz.prog [S_gen_Mod, S_gen_Sample] 1000 13 (inL A_gen_Pixel vs)).outL) vs
noncomputable def S_gen_Pixel : Sum := ⟨13, L_gen_Pixel, A_gen_Pixel, R_gen_Pixel⟩
theorem ok_gen_Pixel : SumOK Tryz.prog InvN S_gen_Pixel := sumOK_evV invN_stays (allOK_cons ok_gen_Mod.any (allOK_cons ok_gen_Sample.any allOK_nil)) 1000 13 A_gen_Pixel R_gen_Pixel L_gen_Pixel_is (fun _ => by kernel_rfl)
noncomputable def F_gen_Pixel (p0 : Int) (p1 : Int) (p2 : Int) (p3 : Int) (p4 : Int) (p5 : Int) : Int × Int × Int × Int × Int := (num ((L_gen_Pixel [.int .i64 p0, .int .i64 p1, .int .i64 p2, .int .i64 p3, .int .i64 p4, .int .u16 p5]).getD 0 undef), num ((L_gen_Pixel [.int .i64 p0, .int .i64 p1, .int .i64 p2, .int .i64 p3, .int .i64 p4, .int .u16 p5]).getD 1 undef), num ((L_gen_Pixel [.int .i64 p0, .int .i64 p1, .int .i64 p2, .int .i64 p3, .int .i64 p4, .int .u16 p5]).getD 2 undef), num ((L_gen_Pixel [.int .i64 p0, .int .i64 p1, .int .i64 p2, .int .i64 p3, .int .i64 p4, .int .u16 p5]).getD 3 undef), num ((L_gen_Pixel [.int .i64 p0, .int .i64 p1, .int .i64 p2, .int .i64 p3, .int .i64 p4, .int .u16 p5]).getD 4 undef))
theorem F_gen_Pixel_eq (p0 : Int) (p1 : Int) (p2 : Int) (p3 : Int) (p4 : Int) (p5 : Int) : F_gen_Pixel p0 p1 p2 p3 p4 p5 =
    let x0 := F_gen_Mod p3 3
    bif (decide (x0 > 0)) then
      (let x1 := F_gen_Sample p4 p5
      let x2 := F_gen_Sample (IntKind.i64.wrap (Int.tdiv p3 3)) x1
      let x3 := F_gen_Sample p0 x2
      let x4 := F_gen_Sample p1 x2
      let x5 := F_gen_Sample p2 x2
      (x3, x4, x5, x2, x1))
    else
      (let x6 := F_gen_Sample p4 p5
      let x7 := F_gen_Sample p0 x6
      let x8 := F_gen_Sample p1 x6
      let x9 := F_gen_Sample p2 x6
      (x7, x8, x9, x6, x6)) :=
  spellV (L := L_gen_Pixel) (fun l => (num ((l).getD 0 undef), num ((l).getD 1 undef), num ((l).getD 2 undef), num ((l).getD 3 undef), num ((l).getD 4 undef))) (evF Tryz.prog [S_gen_Mod, S_gen_Sample] 1000 13 (inL A_gen_Pixel [.int .i64 p0, .int .i64 p1, .int .i64 p2, .int .i64 p3, .int .i64 p4, .int .u16 p5])) (L_gen_Pixel_is _) (by kernel_rfl)

/-! compositor/pixel.Transparent -/
def A_pixel_Transparent : List PS := [.agg [.i .u16, .i .u16, .i .u16, .i .u16, .i .u16]]
def R_pixel_Transparent : RS := .one (.c (.b))
noncomputable def L_pixel_Transparent : List Value → List Value := Classical.choose (veil fun vs => (evF Tryz.prog [] 1000 30 (inL A_pixel_Transparent vs)).outL)
theorem L_pixel_Transparent_is (vs : List Value) : L_pixel_Transparent vs = (evF Tryz.prog [] 1000 30 (inL A_pixel_Transparent vs)).outL := Classical.choose_spec (veil fun vs => (evF Tryz.prog [] 1000 30 (inL A_pixel_Transparent vs)).outL) vs
noncomputable def S_pixel_Transparent : Sum := ⟨30, L_pixel_Transparent, A_pixel_Transparent, R_pixel_Transparent⟩
theorem ok_pixel_Transparent : SumOK Tryz.prog InvN S_pixel_Transparent := sumOK_evV invN_stays allOK_nil 1000 30 A_pixel_Transparent R_pixel_Transparent L_pixel_Transparent_is (fun _ => by kernel_rfl)
noncomputable def F_pixel_Transparent (p0 : Int) (p1 : Int) (p2 : Int) (p3 : Int) (p4 : Int) : Bool := tru ((L_pixel_Transparent [.int .u16 p0, .int .u16 p1, .int .u16 p2, .int .u16 p3, .int .u16 p4]).getD 0 undef)
theorem F_pixel_Transparent_eq (p0 : Int) (p1 : Int) (p2 : Int) (p3 : Int) (p4 : Int) : F_pixel_Transparent p0 p1 p2 p3 p4 =
    (((p0 == 0) && ((p1 == 0) && (p2 == 0))) && ((p3 == 0) && (p4 == 0))) :=
  spellV (L := L_pixel_Transparent) (fun l => tru ((l).getD 0 undef)) (evF Tryz.prog [] 1000 30 (inL A_pixel_Transparent [.int .u16 p0, .int .u16 p1, .int .u16 p2, .int .u16 p3, .int .u16 p4])) (L_pixel_Transparent_is _) (by kernel_rfl)

/-! compositor/pixel.Opaque -/
def A_pixel_Opaque : List PS := [.agg [.i .u16, .i .u16, .i .u16, .i .u16, .i .u16], .c (.i .u16)]
def R_pixel_Opaque : RS := .one (.c (.b))
noncomputable def L_pixel_Opaque : List Value → List Value := Classical.choose (veil fun vs => (evF Tryz.prog [S_sample_Valid] 1000 33 (inL A_pixel_Opaque vs)).outL)
theorem L_pixel_Opaque_is (vs : List Value) : L_pixel_Opaque vs = (evF Tryz.prog [S_sample_Valid] 1000 33 (inL A_pixel_Opaque vs)).outL := Classical.choose_spec (veil fun vs => (evF Tryz.prog [S_sample_Valid] 1000 33 (inL A_pixel_Opaque vs)).outL) vs
noncomputable def S_pixel_Opaque : Sum := ⟨33, L_pixel_Opaque, A_pixel_Opaque, R_pixel_Opaque⟩
theorem ok_pixel_Opaque : SumOK Tryz.prog InvN S_pixel_Opaque := sumOK_evV invN_stays (allOK_cons ok_sample_Valid allOK_nil) 1000 33 A_pixel_Opaque R_pixel_Opaque L_pixel_Opaque_is (fun _ => by kernel_rfl)
noncomputable def F_pixel_Opaque (p0 : Int) (p1 : Int) (p2 : Int) (p3 : Int) (p4 : Int) (p5 : Int) : Bool := tru ((L_pixel_Opaque [.int .u16 p0, .int .u16 p1, .int .u16 p2, .int .u16 p3, .int .u16 p4, .int .u16 p5]).getD 0 undef)
theorem F_pixel_Opaque_eq (p0 : Int) (p1 : Int) (p2 : Int) (p3 : Int) (p4 : Int) (p5 : Int) : F_pixel_Opaque p0 p1 p2 p3 p4 p5 =
    bif (p5 == 255) then
      (let x0 := F_sample_Valid p0 p1 p2 p3 p4 p5
      bif x0 then
        ((p3 == p5))
      else
        (false))
    else
      (bif (p5 == 65535) then
        (let x1 := F_sample_Valid p0 p1 p2 p3 p4 p5
        bif x1 then
          ((p3 == p5))
        else
          (false))
      else
        (false)) :=
  spellV (L := L_pixel_Opaque) (fun l => tru ((l).getD 0 undef)) (evF Tryz.prog [S_sample_Valid] 1000 33 (inL A_pixel_Opaque [.int .u16 p0, .int .u16 p1, .int .u16 p2, .int .u16 p3, .int .u16 p4, .int .u16 p5])) (L_pixel_Opaque_is _) (by kernel_rfl)

/-! compositor/pixel.Composite -/
def A_pixel_Composite : List PS := [.c (.i .i64), .c (.i .i64), .c (.i .u16), .agg [.i .u16, .i .u16, .i .u16, .i .u16, .i .u16], .agg [.i .u16, .i .u16, .i .u16, .i .u16, .i .u16]]
def R_pixel_Composite : RS := .tup [.agg [.i .u16, .i .u16, .i .u16, .i .u16, .i .u16], .c (.b)]
noncomputable def L_pixel_Composite : List Value → List Value := Classical.choose (veil fun vs => (evF Tryz.prog [S_operator_Alpha, S_operator_Shape, S_mix_Color, S_sample_Valid] 1000 20 (inL A_pixel_Composite vs)).outL)
theorem L_pixel_Composite_is (vs : List Value) : L_pixel_Composite vs = (evF Tryz.prog [S_operator_Alpha, S_operator_Shape, S_mix_Color, S_sample_Valid] 1000 20 (inL A_pixel_Composite vs)).outL := Classical.choose_spec (veil fun vs => (evF Tryz.prog [S_operator_Alpha, S_operator_Shape, S_mix_Color, S_sample_Valid] 1000 20 (inL A_pixel_Composite vs)).outL) vs
noncomputable def S_pixel_Composite : Sum := ⟨20, L_pixel_Composite, A_pixel_Composite, R_pixel_Composite⟩
theorem ok_pixel_Composite : SumOK Tryz.prog InvN S_pixel_Composite := sumOK_evV invN_stays (allOK_cons ok_operator_Alpha (allOK_cons ok_operator_Shape (allOK_cons ok_mix_Color (allOK_cons ok_sample_Valid allOK_nil)))) 1000 20 A_pixel_Composite R_pixel_Composite L_pixel_Composite_is (fun _ => by kernel_rfl)
noncomputable def F_pixel_Composite (p0 : Int) (p1 : Int) (p2 : Int) (p3 : Int) (p4 : Int) (p5 : Int) (p6 : Int) (p7 : Int) (p8 : Int) (p9 : Int) (p10 : Int) (p11 : Int) (p12 : Int) : Int × Int × Int × Int × Int × Bool := (num ((L_pixel_Composite [.int .i64 p0, .int .i64 p1, .int .u16 p2, .int .u16 p3, .int .u16 p4, .int .u16 p5, .int .u16 p6, .int .u16 p7, .int .u16 p8, .int .u16 p9, .int .u16 p10, .int .u16 p11, .int .u16 p12]).getD 0 undef), num ((L_pixel_Composite [.int .i64 p0, .int .i64 p1, .int .u16 p2, .int .u16 p3, .int .u16 p4, .int .u16 p5, .int .u16 p6, .int .u16 p7, .int .u16 p8, .int .u16 p9, .int .u16 p10, .int .u16 p11, .int .u16 p12]).getD 1 undef), num ((L_pixel_Composite [.int .i64 p0, .int .i64 p1, .int .u16 p2, .int .u16 p3, .int .u16 p4, .int .u16 p5, .int .u16 p6, .int .u16 p7, .int .u16 p8, .int .u16 p9, .int .u16 p10, .int .u16 p11, .int .u16 p12]).getD 2 undef), num ((L_pixel_Composite [.int .i64 p0, .int .i64 p1, .int .u16 p2, .int .u16 p3, .int .u16 p4, .int .u16 p5, .int .u16 p6, .int .u16 p7, .int .u16 p8, .int .u16 p9, .int .u16 p10, .int .u16 p11, .int .u16 p12]).getD 3 undef), num ((L_pixel_Composite [.int .i64 p0, .int .i64 p1, .int .u16 p2, .int .u16 p3, .int .u16 p4, .int .u16 p5, .int .u16 p6, .int .u16 p7, .int .u16 p8, .int .u16 p9, .int .u16 p10, .int .u16 p11, .int .u16 p12]).getD 4 undef), tru ((L_pixel_Composite [.int .i64 p0, .int .i64 p1, .int .u16 p2, .int .u16 p3, .int .u16 p4, .int .u16 p5, .int .u16 p6, .int .u16 p7, .int .u16 p8, .int .u16 p9, .int .u16 p10, .int .u16 p11, .int .u16 p12]).getD 5 undef))
theorem F_pixel_Composite_eq (p0 : Int) (p1 : Int) (p2 : Int) (p3 : Int) (p4 : Int) (p5 : Int) (p6 : Int) (p7 : Int) (p8 : Int) (p9 : Int) (p10 : Int) (p11 : Int) (p12 : Int) : F_pixel_Composite p0 p1 p2 p3 p4 p5 p6 p7 p8 p9 p10 p11 p12 =
    bif (p2 == 255) then
      (let x0 := F_sample_Valid p3 p4 p5 p6 p7 p2
      bif (!x0) then
        ((0, 0, 0, 0, 0, false))
      else
        (let x1 := F_sample_Valid p8 p9 p10 p11 p12 p2
        bif (!x1) then
          ((0, 0, 0, 0, 0, false))
        else
          (let x2 := F_mix_Color p0 p1 p2 p3 p6 p8 p11
          bif (!x2.2) then
            ((0, 0, 0, 0, 0, false))
          else
            (let x3 := F_mix_Color p0 p1 p2 p4 p6 p9 p11
            bif (!x3.2) then
              ((0, 0, 0, 0, 0, false))
            else
              (let x4 := F_mix_Color p0 p1 p2 p5 p6 p10 p11
              bif (!x4.2) then
                ((0, 0, 0, 0, 0, false))
              else
                (let x5 := F_operator_Alpha p0 p6 p11 p2
                let x6 := F_operator_Shape p0 p7 p12 p2
                (x2.1, x3.1, x4.1, x5, x6, true)))))))
    else
      (bif (!(p2 == 65535)) then
        ((0, 0, 0, 0, 0, false))
      else
        (let x7 := F_sample_Valid p3 p4 p5 p6 p7 p2
        bif (!x7) then
          ((0, 0, 0, 0, 0, false))
        else
          (let x8 := F_sample_Valid p8 p9 p10 p11 p12 p2
          bif (!x8) then
            ((0, 0, 0, 0, 0, false))
          else
            (let x9 := F_mix_Color p0 p1 p2 p3 p6 p8 p11
            bif (!x9.2) then
              ((0, 0, 0, 0, 0, false))
            else
              (let x10 := F_mix_Color p0 p1 p2 p4 p6 p9 p11
              bif (!x10.2) then
                ((0, 0, 0, 0, 0, false))
              else
                (let x11 := F_mix_Color p0 p1 p2 p5 p6 p10 p11
                bif (!x11.2) then
                  ((0, 0, 0, 0, 0, false))
                else
                  (let x12 := F_operator_Alpha p0 p6 p11 p2
                  let x13 := F_operator_Shape p0 p7 p12 p2
                  (x9.1, x10.1, x11.1, x12, x13, true)))))))) :=
  spellV (L := L_pixel_Composite) (fun l => (num ((l).getD 0 undef), num ((l).getD 1 undef), num ((l).getD 2 undef), num ((l).getD 3 undef), num ((l).getD 4 undef), tru ((l).getD 5 undef))) (evF Tryz.prog [S_operator_Alpha, S_operator_Shape, S_mix_Color, S_sample_Valid] 1000 20 (inL A_pixel_Composite [.int .i64 p0, .int .i64 p1, .int .u16 p2, .int .u16 p3, .int .u16 p4, .int .u16 p5, .int .u16 p6, .int .u16 p7, .int .u16 p8, .int .u16 p9, .int .u16 p10, .int .u16 p11, .int .u16 p12])) (L_pixel_Composite_is _) (by kernel_rfl)

/-! compositor/compositorref06.Composite -/
def A_ref06_Composite : List PS := [.c (.i .i64), .c (.i .i64), .c (.i .u16), .agg [.i .u16, .i .u16, .i .u16, .i .u16, .i .u16], .agg [.i .u16, .i .u16, .i .u16, .i .u16, .i .u16]]
def R_ref06_Composite : RS := .tup [.agg [.i .u16, .i .u16, .i .u16, .i .u16, .i .u16], .c (.b)]
noncomputable def L_ref06_Composite : List Value → List Value := Classical.choose (veil fun vs => (evF Tryz.prog [S_ref06_IsMode, S_ref01_Full, S_ref06_IsOp, S_ref06_Color, S_ref01_ValidPixel, S_ref06_Alpha, S_ref06_Shape] 1000 22 (inL A_ref06_Composite vs)).outL)
theorem L_ref06_Composite_is (vs : List Value) : L_ref06_Composite vs = (evF Tryz.prog [S_ref06_IsMode, S_ref01_Full, S_ref06_IsOp, S_ref06_Color, S_ref01_ValidPixel, S_ref06_Alpha, S_ref06_Shape] 1000 22 (inL A_ref06_Composite vs)).outL := Classical.choose_spec (veil fun vs => (evF Tryz.prog [S_ref06_IsMode, S_ref01_Full, S_ref06_IsOp, S_ref06_Color, S_ref01_ValidPixel, S_ref06_Alpha, S_ref06_Shape] 1000 22 (inL A_ref06_Composite vs)).outL) vs
noncomputable def S_ref06_Composite : Sum := ⟨22, L_ref06_Composite, A_ref06_Composite, R_ref06_Composite⟩
theorem ok_ref06_Composite : SumOK Tryz.prog InvN S_ref06_Composite := sumOK_evV invN_stays (allOK_cons ok_ref06_IsMode.any (allOK_cons ok_ref01_Full.any (allOK_cons ok_ref06_IsOp (allOK_cons ok_ref06_Color (allOK_cons ok_ref01_ValidPixel (allOK_cons ok_ref06_Alpha (allOK_cons ok_ref06_Shape allOK_nil))))))) 1000 22 A_ref06_Composite R_ref06_Composite L_ref06_Composite_is (fun _ => by kernel_rfl)
noncomputable def F_ref06_Composite (p0 : Int) (p1 : Int) (p2 : Int) (p3 : Int) (p4 : Int) (p5 : Int) (p6 : Int) (p7 : Int) (p8 : Int) (p9 : Int) (p10 : Int) (p11 : Int) (p12 : Int) : Int × Int × Int × Int × Int × Bool := (num ((L_ref06_Composite [.int .i64 p0, .int .i64 p1, .int .u16 p2, .int .u16 p3, .int .u16 p4, .int .u16 p5, .int .u16 p6, .int .u16 p7, .int .u16 p8, .int .u16 p9, .int .u16 p10, .int .u16 p11, .int .u16 p12]).getD 0 undef), num ((L_ref06_Composite [.int .i64 p0, .int .i64 p1, .int .u16 p2, .int .u16 p3, .int .u16 p4, .int .u16 p5, .int .u16 p6, .int .u16 p7, .int .u16 p8, .int .u16 p9, .int .u16 p10, .int .u16 p11, .int .u16 p12]).getD 1 undef), num ((L_ref06_Composite [.int .i64 p0, .int .i64 p1, .int .u16 p2, .int .u16 p3, .int .u16 p4, .int .u16 p5, .int .u16 p6, .int .u16 p7, .int .u16 p8, .int .u16 p9, .int .u16 p10, .int .u16 p11, .int .u16 p12]).getD 2 undef), num ((L_ref06_Composite [.int .i64 p0, .int .i64 p1, .int .u16 p2, .int .u16 p3, .int .u16 p4, .int .u16 p5, .int .u16 p6, .int .u16 p7, .int .u16 p8, .int .u16 p9, .int .u16 p10, .int .u16 p11, .int .u16 p12]).getD 3 undef), num ((L_ref06_Composite [.int .i64 p0, .int .i64 p1, .int .u16 p2, .int .u16 p3, .int .u16 p4, .int .u16 p5, .int .u16 p6, .int .u16 p7, .int .u16 p8, .int .u16 p9, .int .u16 p10, .int .u16 p11, .int .u16 p12]).getD 4 undef), tru ((L_ref06_Composite [.int .i64 p0, .int .i64 p1, .int .u16 p2, .int .u16 p3, .int .u16 p4, .int .u16 p5, .int .u16 p6, .int .u16 p7, .int .u16 p8, .int .u16 p9, .int .u16 p10, .int .u16 p11, .int .u16 p12]).getD 5 undef))
theorem F_ref06_Composite_eq (p0 : Int) (p1 : Int) (p2 : Int) (p3 : Int) (p4 : Int) (p5 : Int) (p6 : Int) (p7 : Int) (p8 : Int) (p9 : Int) (p10 : Int) (p11 : Int) (p12 : Int) : F_ref06_Composite p0 p1 p2 p3 p4 p5 p6 p7 p8 p9 p10 p11 p12 =
    let x0 := F_ref06_IsOp p0
    bif (!x0) then
      ((0, 0, 0, 0, 0, false))
    else
      (let x1 := F_ref06_IsMode p1
      bif (!x1) then
        ((0, 0, 0, 0, 0, false))
      else
        (let x2 := F_ref01_Full p2
        bif (!x2) then
          ((0, 0, 0, 0, 0, false))
        else
          (let x3 := F_ref01_ValidPixel p3 p4 p5 p6 p7 p2
          bif (!x3) then
            ((0, 0, 0, 0, 0, false))
          else
            (let x4 := F_ref01_ValidPixel p8 p9 p10 p11 p12 p2
            bif (!x4) then
              ((0, 0, 0, 0, 0, false))
            else
              (let x5 := F_ref06_Color p0 p1 p2 p3 p6 p8 p11
              let x6 := F_ref06_Color p0 p1 p2 p4 p6 p9 p11
              let x7 := F_ref06_Color p0 p1 p2 p5 p6 p10 p11
              let x8 := F_ref06_Alpha p0 p6 p11 p2
              let x9 := F_ref06_Shape p0 p7 p12 p2
              (x5.1, x6.1, x7.1, x8, x9, true)))))) :=
  spellV (L := L_ref06_Composite) (fun l => (num ((l).getD 0 undef), num ((l).getD 1 undef), num ((l).getD 2 undef), num ((l).getD 3 undef), num ((l).getD 4 undef), tru ((l).getD 5 undef))) (evF Tryz.prog [S_ref06_IsMode, S_ref01_Full, S_ref06_IsOp, S_ref06_Color, S_ref01_ValidPixel, S_ref06_Alpha, S_ref06_Shape] 1000 22 (inL A_ref06_Composite [.int .i64 p0, .int .i64 p1, .int .u16 p2, .int .u16 p3, .int .u16 p4, .int .u16 p5, .int .u16 p6, .int .u16 p7, .int .u16 p8, .int .u16 p9, .int .u16 p10, .int .u16 p11, .int .u16 p12])) (L_ref06_Composite_is _) (by kernel_rfl)



end Go.Proofs.YtfjhhadmncjdiaaGreatDoor
