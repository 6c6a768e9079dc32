/- The statements of chapter 10, their checks. Printed by a program (gen/Gen.lean); what each function does is told by the evaluator, and the kernel checks it. No condition. -/
import Derived.Test.YthldhjipjihmoaaSm10
import Derived.KernelRfl
namespace Go.Proofs.Ythldhjipjihmoaa
open Go.RowKit

/-! compositor/compositorlaw10.KnockoutColorAgrees -/
def A_law10_KnockoutColorAgrees : List PS := [.c (.i .i64), .agg [.i .i64, .i .i64, .i .i64], .c (.i .i64), .agg [.i .i64, .i .i64], .c (.i .i64), .agg [.i .u16, .i .u16, .i .u16, .i .u16, .i .u16, .i .u16], .c (.i .u16)]
def R_law10_KnockoutColorAgrees : RS := .one (.c (.b))
noncomputable def L_law10_KnockoutColorAgrees : List Value → List Value := Classical.choose (veil fun vs => (evF Try.prog [S_gen_Mod, S_gen_Max, S_gen_Sample, S_gen_Alpha, S_knockout_Color, S_ref06_KnockColor, S_law10_source, S_law10_awake] 1000 3 (inL A_law10_KnockoutColorAgrees vs)).outL)
theorem L_law10_KnockoutColorAgrees_is (vs : List Value) : L_law10_KnockoutColorAgrees vs = (evF Try.prog [S_gen_Mod, S_gen_Max, S_gen_Sample, S_gen_Alpha, S_knockout_Color, S_ref06_KnockColor, S_law10_source, S_law10_awake] 1000 3 (inL A_law10_KnockoutColorAgrees vs)).outL := Classical.choose_spec (veil fun vs => (evF Try.prog [S_gen_Mod, S_gen_Max, S_gen_Sample, S_gen_Alpha, S_knockout_Color, S_ref06_KnockColor, S_law10_source, S_law10_awake] 1000 3 (inL A_law10_KnockoutColorAgrees vs)).outL) vs
noncomputable def S_law10_KnockoutColorAgrees : Sum := ⟨3, L_law10_KnockoutColorAgrees, A_law10_KnockoutColorAgrees, R_law10_KnockoutColorAgrees⟩
theorem ok_law10_KnockoutColorAgrees : SumOK Try.prog Inv S_law10_KnockoutColorAgrees := sumOK_evV inv_stays (allOK_cons ok_gen_Mod (allOK_cons ok_gen_Max (allOK_cons ok_gen_Sample (allOK_cons ok_gen_Alpha (allOK_cons ok_knockout_Color (allOK_cons ok_ref06_KnockColor (allOK_cons ok_law10_source (allOK_cons ok_law10_awake allOK_nil)))))))) 1000 3 A_law10_KnockoutColorAgrees R_law10_KnockoutColorAgrees L_law10_KnockoutColorAgrees_is (fun _ => by kernel_rfl)
noncomputable def F_law10_KnockoutColorAgrees (p0 : Int) (p1 : Int) (p2 : Int) (p3 : Int) (p4 : Int) (p5 : Int) (p6 : Int) (p7 : Int) (p8 : Int) (p9 : Int) (p10 : Int) (p11 : Int) (p12 : Int) (p13 : Int) (p14 : Int) : Bool := tru ((L_law10_KnockoutColorAgrees [.int .i64 p0, .int .i64 p1, .int .i64 p2, .int .i64 p3, .int .i64 p4, .int .i64 p5, .int .i64 p6, .int .i64 p7, .int .u16 p8, .int .u16 p9, .int .u16 p10, .int .u16 p11, .int .u16 p12, .int .u16 p13, .int .u16 p14]).getD 0 undef)
theorem F_law10_KnockoutColorAgrees_eq (p0 : Int) (p1 : Int) (p2 : Int) (p3 : Int) (p4 : Int) (p5 : Int) (p6 : Int) (p7 : Int) (p8 : Int) (p9 : Int) (p10 : Int) (p11 : Int) (p12 : Int) (p13 : Int) (p14 : Int) : F_law10_KnockoutColorAgrees p0 p1 p2 p3 p4 p5 p6 p7 p8 p9 p10 p11 p12 p13 p14 =
    let x0 := F_law10_awake
    bif x0 then
      (let x1 := F_gen_Mod p0 14
      let x2 := F_gen_Max p7
      let x3 := F_law10_source p1 p2 p3 x2
      let x4 := F_gen_Sample p4 x2
      let x5 := F_gen_Alpha p5 p6 x2
      let x6 := F_knockout_Color x1 x2 x3.1 x3.2.1 x3.2.2 x4 x5.1 x5.2
      let x7 := F_ref06_KnockColor x1 x2 x3.1 x3.2.1 x3.2.2 x4 x5.1 x5.2
      bif (x6.1 == x7.1) then
        (bif (x6.2 == x7.2) then
          (let x8 := F_knockout_Color x1 p14 p8 p9 p10 p11 p12 p13
          let x9 := F_ref06_KnockColor x1 p14 p8 p9 p10 p11 p12 p13
          bif (x8.1 == x9.1) then
            (bif (x8.2 == x9.2) then
              (let x10 := F_knockout_Color x1 65535 p8 p9 p10 p11 p12 p13
              let x11 := F_ref06_KnockColor x1 65535 p8 p9 p10 p11 p12 p13
              bif (x10.1 == x11.1) then
                ((x10.2 == x11.2))
              else
                (false))
            else
              (false))
          else
            (false))
        else
          (false))
      else
        (false))
    else
      (false) :=
  spellV (L := L_law10_KnockoutColorAgrees) (fun l => tru ((l).getD 0 undef)) (evF Try.prog [S_gen_Mod, S_gen_Max, S_gen_Sample, S_gen_Alpha, S_knockout_Color, S_ref06_KnockColor, S_law10_source, S_law10_awake] 1000 3 (inL A_law10_KnockoutColorAgrees [.int .i64 p0, .int .i64 p1, .int .i64 p2, .int .i64 p3, .int .i64 p4, .int .i64 p5, .int .i64 p6, .int .i64 p7, .int .u16 p8, .int .u16 p9, .int .u16 p10, .int .u16 p11, .int .u16 p12, .int .u16 p13, .int .u16 p14])) (L_law10_KnockoutColorAgrees_is _) (by kernel_rfl)

/-! compositor/compositorlaw10.KnockoutAlphaAgrees -/
def A_law10_KnockoutAlphaAgrees : List PS := [.agg [.i .i64, .i .i64], .c (.i .i64), .c (.i .i64), .c (.i .i64), .agg [.i .u16, .i .u16, .i .u16, .i .u16], .c (.i .u16)]
def R_law10_KnockoutAlphaAgrees : RS := .one (.c (.b))
noncomputable def L_law10_KnockoutAlphaAgrees : List Value → List Value := Classical.choose (veil fun vs => (evF Try.prog [S_gen_Max, S_gen_Sample, S_gen_Alpha, S_knockout_Alpha, S_knockout_Own, S_ref06_KnockAlpha, S_ref06_KnockOwn, S_law10_awake] 1000 4 (inL A_law10_KnockoutAlphaAgrees vs)).outL)
theorem L_law10_KnockoutAlphaAgrees_is (vs : List Value) : L_law10_KnockoutAlphaAgrees vs = (evF Try.prog [S_gen_Max, S_gen_Sample, S_gen_Alpha, S_knockout_Alpha, S_knockout_Own, S_ref06_KnockAlpha, S_ref06_KnockOwn, S_law10_awake] 1000 4 (inL A_law10_KnockoutAlphaAgrees vs)).outL := Classical.choose_spec (veil fun vs => (evF Try.prog [S_gen_Max, S_gen_Sample, S_gen_Alpha, S_knockout_Alpha, S_knockout_Own, S_ref06_KnockAlpha, S_ref06_KnockOwn, S_law10_awake] 1000 4 (inL A_law10_KnockoutAlphaAgrees vs)).outL) vs
noncomputable def S_law10_KnockoutAlphaAgrees : Sum := ⟨4, L_law10_KnockoutAlphaAgrees, A_law10_KnockoutAlphaAgrees, R_law10_KnockoutAlphaAgrees⟩
theorem ok_law10_KnockoutAlphaAgrees : SumOK Try.prog Inv S_law10_KnockoutAlphaAgrees := sumOK_evV inv_stays (allOK_cons ok_gen_Max (allOK_cons ok_gen_Sample (allOK_cons ok_gen_Alpha (allOK_cons ok_knockout_Alpha (allOK_cons ok_knockout_Own (allOK_cons ok_ref06_KnockAlpha (allOK_cons ok_ref06_KnockOwn (allOK_cons ok_law10_awake allOK_nil)))))))) 1000 4 A_law10_KnockoutAlphaAgrees R_law10_KnockoutAlphaAgrees L_law10_KnockoutAlphaAgrees_is (fun _ => by kernel_rfl)
noncomputable def F_law10_KnockoutAlphaAgrees (p0 : Int) (p1 : Int) (p2 : Int) (p3 : Int) (p4 : Int) (p5 : Int) (p6 : Int) (p7 : Int) (p8 : Int) (p9 : Int) : Bool := tru ((L_law10_KnockoutAlphaAgrees [.int .i64 p0, .int .i64 p1, .int .i64 p2, .int .i64 p3, .int .i64 p4, .int .u16 p5, .int .u16 p6, .int .u16 p7, .int .u16 p8, .int .u16 p9]).getD 0 undef)
theorem F_law10_KnockoutAlphaAgrees_eq (p0 : Int) (p1 : Int) (p2 : Int) (p3 : Int) (p4 : Int) (p5 : Int) (p6 : Int) (p7 : Int) (p8 : Int) (p9 : Int) : F_law10_KnockoutAlphaAgrees p0 p1 p2 p3 p4 p5 p6 p7 p8 p9 =
    let x0 := F_law10_awake
    bif x0 then
      (let x1 := F_gen_Max p4
      let x2 := F_gen_Alpha p0 p1 x1
      let x3 := F_gen_Sample p2 x1
      let x4 := F_gen_Sample p3 x1
      let x5 := F_knockout_Alpha x1 x2.1 x2.2 x3 x4
      let x6 := F_ref06_KnockAlpha x1 x2.1 x2.2 x3 x4
      bif (x5.1 == x6.1) then
        (bif (x5.2 == x6.2) then
          (let x7 := F_knockout_Own x1 x2.1 x2.2 x3
          let x8 := F_ref06_KnockOwn x1 x2.1 x2.2 x3
          bif (x7.1 == x8.1) then
            (bif (x7.2 == x8.2) then
              (let x9 := F_knockout_Alpha p9 p5 p6 p7 p8
              let x10 := F_ref06_KnockAlpha p9 p5 p6 p7 p8
              bif (x9.1 == x10.1) then
                (bif (x9.2 == x10.2) then
                  (let x11 := F_knockout_Own p9 p5 p6 p7
                  let x12 := F_ref06_KnockOwn p9 p5 p6 p7
                  bif (x11.1 == x12.1) then
                    ((x11.2 == x12.2))
                  else
                    (false))
                else
                  (false))
              else
                (false))
            else
              (false))
          else
            (false))
        else
          (false))
      else
        (false))
    else
      (false) :=
  spellV (L := L_law10_KnockoutAlphaAgrees) (fun l => tru ((l).getD 0 undef)) (evF Try.prog [S_gen_Max, S_gen_Sample, S_gen_Alpha, S_knockout_Alpha, S_knockout_Own, S_ref06_KnockAlpha, S_ref06_KnockOwn, S_law10_awake] 1000 4 (inL A_law10_KnockoutAlphaAgrees [.int .i64 p0, .int .i64 p1, .int .i64 p2, .int .i64 p3, .int .i64 p4, .int .u16 p5, .int .u16 p6, .int .u16 p7, .int .u16 p8, .int .u16 p9])) (L_law10_KnockoutAlphaAgrees_is _) (by kernel_rfl)

/-! compositor/compositorlaw10.KnockoutReplaces -/
def A_law10_KnockoutReplaces : List PS := [.c (.i .i64), .agg [.i .i64, .i .i64], .c (.i .i64), .c (.i .i64), .agg [.i .i64, .i .i64], .c (.i .i64)]
def R_law10_KnockoutReplaces : RS := .one (.c (.b))
noncomputable def L_law10_KnockoutReplaces : List Value → List Value := Classical.choose (veil fun vs => (evF Try.prog [S_gen_Mod, S_gen_Max, S_gen_Sample, S_gen_Alpha, S_knockout_Color, S_knockout_Alpha, S_knockout_Own, S_law10_awake] 1000 5 (inL A_law10_KnockoutReplaces vs)).outL)
theorem L_law10_KnockoutReplaces_is (vs : List Value) : L_law10_KnockoutReplaces vs = (evF Try.prog [S_gen_Mod, S_gen_Max, S_gen_Sample, S_gen_Alpha, S_knockout_Color, S_knockout_Alpha, S_knockout_Own, S_law10_awake] 1000 5 (inL A_law10_KnockoutReplaces vs)).outL := Classical.choose_spec (veil fun vs => (evF Try.prog [S_gen_Mod, S_gen_Max, S_gen_Sample, S_gen_Alpha, S_knockout_Color, S_knockout_Alpha, S_knockout_Own, S_law10_awake] 1000 5 (inL A_law10_KnockoutReplaces vs)).outL) vs
noncomputable def S_law10_KnockoutReplaces : Sum := ⟨5, L_law10_KnockoutReplaces, A_law10_KnockoutReplaces, R_law10_KnockoutReplaces⟩
theorem ok_law10_KnockoutReplaces : SumOK Try.prog Inv S_law10_KnockoutReplaces := sumOK_evV inv_stays (allOK_cons ok_gen_Mod (allOK_cons ok_gen_Max (allOK_cons ok_gen_Sample (allOK_cons ok_gen_Alpha (allOK_cons ok_knockout_Color (allOK_cons ok_knockout_Alpha (allOK_cons ok_knockout_Own (allOK_cons ok_law10_awake allOK_nil)))))))) 1000 5 A_law10_KnockoutReplaces R_law10_KnockoutReplaces L_law10_KnockoutReplaces_is (fun _ => by kernel_rfl)
noncomputable def F_law10_KnockoutReplaces (p0 : Int) (p1 : Int) (p2 : Int) (p3 : Int) (p4 : Int) (p5 : Int) (p6 : Int) (p7 : Int) : Bool := tru ((L_law10_KnockoutReplaces [.int .i64 p0, .int .i64 p1, .int .i64 p2, .int .i64 p3, .int .i64 p4, .int .i64 p5, .int .i64 p6, .int .i64 p7]).getD 0 undef)
theorem F_law10_KnockoutReplaces_eq (p0 : Int) (p1 : Int) (p2 : Int) (p3 : Int) (p4 : Int) (p5 : Int) (p6 : Int) (p7 : Int) : F_law10_KnockoutReplaces p0 p1 p2 p3 p4 p5 p6 p7 =
    let x0 := F_law10_awake
    bif x0 then
      (let x1 := F_gen_Mod p0 12
      let x2 := F_gen_Max p7
      let x3 := F_gen_Alpha p1 p2 x2
      let x4 := F_gen_Sample p3 x2
      let x5 := F_gen_Alpha p5 p6 x2
      let x6 := F_knockout_Color (IntKind.i64.wrap (1 + x1)) x2 x3.1 x3.2 x2 x4 x5.1 x5.2
      bif x6.2 then
        (let x7 := F_gen_Sample p4 x2
        let x8 := F_knockout_Color (IntKind.i64.wrap (1 + x1)) x2 x3.1 x3.2 x2 x7 x5.1 x5.2
        bif x8.2 then
          (let x9 := F_knockout_Color (IntKind.i64.wrap (1 + x1)) x2 0 0 0 x4 x5.1 x5.2
          bif x9.2 then
            (let x10 := F_knockout_Alpha x2 x3.2 x2 x4 x5.2
            bif x10.2 then
              (let x11 := F_knockout_Alpha x2 x3.2 x2 x7 x5.2
              bif x11.2 then
                (let x12 := F_knockout_Alpha x2 0 0 x4 x5.2
                bif x12.2 then
                  (let x13 := F_knockout_Own x2 0 0 x7
                  bif x13.2 then
                    (bif (x6.1 == x8.1) then
                      (bif (x9.1 == x4) then
                        (bif (x10.1 == x11.1) then
                          (bif (x12.1 == x4) then
                            ((x13.1 == x7))
                          else
                            (false))
                        else
                          (false))
                      else
                        (false))
                    else
                      (false))
                  else
                    (false))
                else
                  (false))
              else
                (false))
            else
              (false))
          else
            (false))
        else
          (false))
      else
        (false))
    else
      (false) :=
  spellV (L := L_law10_KnockoutReplaces) (fun l => tru ((l).getD 0 undef)) (evF Try.prog [S_gen_Mod, S_gen_Max, S_gen_Sample, S_gen_Alpha, S_knockout_Color, S_knockout_Alpha, S_knockout_Own, S_law10_awake] 1000 5 (inL A_law10_KnockoutReplaces [.int .i64 p0, .int .i64 p1, .int .i64 p2, .int .i64 p3, .int .i64 p4, .int .i64 p5, .int .i64 p6, .int .i64 p7])) (L_law10_KnockoutReplaces_is _) (by kernel_rfl)
end Go.Proofs.Ythldhjipjihmoaa
