/- What the functions of chapter 09 compute. Printed by a program (gen/Gen.lean); what each function does is told by the evaluator, and the kernel checks it. No condition. -/
import Derived.Test.YtdioaiepkhepaaaDoorSm08
import Derived.KernelRfl
namespace Go.Proofs.YtdioaiepkhepaaaDoor
open Go.RowKit

/-! compositor/sample.Valid -/
def A_sample_Valid : List PS := [.agg [.i .u16, .i .u16, .i .u16, .i .u16, .i .u16], .c (.i .u16)]
def R_sample_Valid : RS := .one (.c (.b))
noncomputable def L_sample_Valid : List Value → List Value := Classical.choose (veil fun vs => (evF Tryd.prog [] 1000 27 (inL A_sample_Valid vs)).outL)
theorem L_sample_Valid_is (vs : List Value) : L_sample_Valid vs = (evF Tryd.prog [] 1000 27 (inL A_sample_Valid vs)).outL := Classical.choose_spec (veil fun vs => (evF Tryd.prog [] 1000 27 (inL A_sample_Valid vs)).outL) vs
noncomputable def S_sample_Valid : Sum := ⟨27, L_sample_Valid, A_sample_Valid, R_sample_Valid⟩
theorem ok_sample_Valid : SumOK Tryd.prog InvN S_sample_Valid := sumOK_evV invN_stays allOK_nil 1000 27 A_sample_Valid R_sample_Valid L_sample_Valid_is (fun _ => by kernel_rfl)
noncomputable def F_sample_Valid (p0 : Int) (p1 : Int) (p2 : Int) (p3 : Int) (p4 : Int) (p5 : Int) : Bool := tru ((L_sample_Valid [.int .u16 p0, .int .u16 p1, .int .u16 p2, .int .u16 p3, .int .u16 p4, .int .u16 p5]).getD 0 undef)
theorem F_sample_Valid_eq (p0 : Int) (p1 : Int) (p2 : Int) (p3 : Int) (p4 : Int) (p5 : Int) : F_sample_Valid p0 p1 p2 p3 p4 p5 =
    bif (decide (p0 > p3)) then
      (false)
    else
      (bif (decide (p1 > p3)) then
        (false)
      else
        (bif (decide (p2 > p3)) then
          (false)
        else
          (bif (decide (p3 ≤ p4)) then
            ((decide (p4 ≤ p5)))
          else
            (false)))) :=
  spellV (L := L_sample_Valid) (fun l => tru ((l).getD 0 undef)) (evF Tryd.prog [] 1000 27 (inL A_sample_Valid [.int .u16 p0, .int .u16 p1, .int .u16 p2, .int .u16 p3, .int .u16 p4, .int .u16 p5])) (L_sample_Valid_is _) (by kernel_rfl)

/-! compositor/compositorref01.ValidPixel -/
def A_ref01_ValidPixel : List PS := [.agg [.i .u16, .i .u16, .i .u16, .i .u16, .i .u16], .c (.i .u16)]
def R_ref01_ValidPixel : RS := .one (.c (.b))
noncomputable def L_ref01_ValidPixel : List Value → List Value := Classical.choose (veil fun vs => (evF Tryd.prog [] 1000 34 (inL A_ref01_ValidPixel vs)).outL)
theorem L_ref01_ValidPixel_is (vs : List Value) : L_ref01_ValidPixel vs = (evF Tryd.prog [] 1000 34 (inL A_ref01_ValidPixel vs)).outL := Classical.choose_spec (veil fun vs => (evF Tryd.prog [] 1000 34 (inL A_ref01_ValidPixel vs)).outL) vs
noncomputable def S_ref01_ValidPixel : Sum := ⟨34, L_ref01_ValidPixel, A_ref01_ValidPixel, R_ref01_ValidPixel⟩
theorem ok_ref01_ValidPixel : SumOK Tryd.prog InvN S_ref01_ValidPixel := sumOK_evV invN_stays allOK_nil 1000 34 A_ref01_ValidPixel R_ref01_ValidPixel L_ref01_ValidPixel_is (fun _ => by kernel_rfl)
noncomputable def F_ref01_ValidPixel (p0 : Int) (p1 : Int) (p2 : Int) (p3 : Int) (p4 : Int) (p5 : Int) : Bool := tru ((L_ref01_ValidPixel [.int .u16 p0, .int .u16 p1, .int .u16 p2, .int .u16 p3, .int .u16 p4, .int .u16 p5]).getD 0 undef)
theorem F_ref01_ValidPixel_eq (p0 : Int) (p1 : Int) (p2 : Int) (p3 : Int) (p4 : Int) (p5 : Int) : F_ref01_ValidPixel p0 p1 p2 p3 p4 p5 =
    bif (decide (p0 ≤ p3)) then
      (bif (decide (p1 ≤ p3)) then
        (bif (decide (p2 ≤ p3)) then
          (bif (decide (p3 ≤ p4)) then
            ((decide (p4 ≤ p5)))
          else
            (false))
        else
          (false))
      else
        (false))
    else
      (false) :=
  spellV (L := L_ref01_ValidPixel) (fun l => tru ((l).getD 0 undef)) (evF Tryd.prog [] 1000 34 (inL A_ref01_ValidPixel [.int .u16 p0, .int .u16 p1, .int .u16 p2, .int .u16 p3, .int .u16 p4, .int .u16 p5])) (L_ref01_ValidPixel_is _) (by kernel_rfl)





/-! compositor/compositorgen.Pixel -/
def A_gen_Pixel : List PS := [.agg [.i .i64, .i .i64, .i .i64, .i .i64, .i .i64], .c (.i .u16)]
def R_gen_Pixel : RS := .one (.agg [.i .u16, .i .u16, .i .u16, .i .u16, .i .u16])
noncomputable def L_gen_Pixel : List Value → List Value := Classical.choose (veil fun vs => (evF Tryd.prog [S_gen_Mod, S_gen_Sample] 1000 12 (inL A_gen_Pixel vs)).outL)
theorem L_gen_Pixel_is (vs : List Value) : L_gen_Pixel vs = (evF Tryd.prog [S_gen_Mod, S_gen_Sample] 1000 12 (inL A_gen_Pixel vs)).outL := Classical.choose_spec (veil fun vs => (evF Tryd.prog [S_gen_Mod, S_gen_Sample] 1000 12 (inL A_gen_Pixel vs)).outL) vs
noncomputable def S_gen_Pixel : Sum := ⟨12, L_gen_Pixel, A_gen_Pixel, R_gen_Pixel⟩
theorem ok_gen_Pixel : SumOK Tryd.prog InvN S_gen_Pixel := sumOK_evV invN_stays (allOK_cons ok_gen_Mod.any (allOK_cons ok_gen_Sample.any allOK_nil)) 1000 12 A_gen_Pixel R_gen_Pixel L_gen_Pixel_is (fun _ => by kernel_rfl)
noncomputable def F_gen_Pixel (p0 : Int) (p1 : Int) (p2 : Int) (p3 : Int) (p4 : Int) (p5 : Int) : Int × Int × Int × Int × Int := (num ((L_gen_Pixel [.int .i64 p0, .int .i64 p1, .int .i64 p2, .int .i64 p3, .int .i64 p4, .int .u16 p5]).getD 0 undef), num ((L_gen_Pixel [.int .i64 p0, .int .i64 p1, .int .i64 p2, .int .i64 p3, .int .i64 p4, .int .u16 p5]).getD 1 undef), num ((L_gen_Pixel [.int .i64 p0, .int .i64 p1, .int .i64 p2, .int .i64 p3, .int .i64 p4, .int .u16 p5]).getD 2 undef), num ((L_gen_Pixel [.int .i64 p0, .int .i64 p1, .int .i64 p2, .int .i64 p3, .int .i64 p4, .int .u16 p5]).getD 3 undef), num ((L_gen_Pixel [.int .i64 p0, .int .i64 p1, .int .i64 p2, .int .i64 p3, .int .i64 p4, .int .u16 p5]).getD 4 undef))
theorem F_gen_Pixel_eq (p0 : Int) (p1 : Int) (p2 : Int) (p3 : Int) (p4 : Int) (p5 : Int) : F_gen_Pixel p0 p1 p2 p3 p4 p5 =
    let x0 := F_gen_Mod p3 3
    bif (decide (x0 > 0)) then
      (let x1 := F_gen_Sample p4 p5
      let x2 := F_gen_Sample (IntKind.i64.wrap (Int.tdiv p3 3)) x1
      let x3 := F_gen_Sample p0 x2
      let x4 := F_gen_Sample p1 x2
      let x5 := F_gen_Sample p2 x2
      (x3, x4, x5, x2, x1))
    else
      (let x6 := F_gen_Sample p4 p5
      let x7 := F_gen_Sample p0 x6
      let x8 := F_gen_Sample p1 x6
      let x9 := F_gen_Sample p2 x6
      (x7, x8, x9, x6, x6)) :=
  spellV (L := L_gen_Pixel) (fun l => (num ((l).getD 0 undef), num ((l).getD 1 undef), num ((l).getD 2 undef), num ((l).getD 3 undef), num ((l).getD 4 undef))) (evF Tryd.prog [S_gen_Mod, S_gen_Sample] 1000 12 (inL A_gen_Pixel [.int .i64 p0, .int .i64 p1, .int .i64 p2, .int .i64 p3, .int .i64 p4, .int .u16 p5])) (L_gen_Pixel_is _) (by kernel_rfl)







end Go.Proofs.YtdioaiepkhepaaaDoor
