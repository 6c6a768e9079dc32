/- Machines: the laws of chapter 22 (three of them). Printed by a program (gen/Gen2.lean) but for the loops' proofs; what each function does is told by the evaluator, and the kernel checks it. No condition. -/
import Derived.Test.YtdioaiepkhepaaaDoorSm22a
import Derived.Test.YtdioaiepkhepaaaDoorMach
import Derived.KernelRfl
import Derived.Shelf.Spec.TrailingZeros
import Derived.Laws.Bits64b
namespace Go.Proofs.YtdioaiepkhepaaaDoor
set_option maxRecDepth 100000
open Go.RowKit

/-! compositor/compositorlaw22.FrameNewRejects -/
def A_law22_FrameNewRejects : List PS := [.c (.i .u16)]
def R_law22_FrameNewRejects : RS := .one (.c (.b))
noncomputable def L_law22_FrameNewRejects : List Value → List Value := Classical.choose (veil fun vs => (evFM ⟨[], []⟩ Tryd.prog [S_ref01_Full, S_law22_awake] 1000 3 (inL A_law22_FrameNewRejects vs) R_law22_FrameNewRejects).outL)
theorem L_law22_FrameNewRejects_is (vs : List Value) : L_law22_FrameNewRejects vs = (evFM ⟨[], []⟩ Tryd.prog [S_ref01_Full, S_law22_awake] 1000 3 (inL A_law22_FrameNewRejects vs) R_law22_FrameNewRejects).outL := Classical.choose_spec (veil fun vs => (evFM ⟨[], []⟩ Tryd.prog [S_ref01_Full, S_law22_awake] 1000 3 (inL A_law22_FrameNewRejects vs) R_law22_FrameNewRejects).outL) vs
noncomputable def S_law22_FrameNewRejects : Sum := ⟨3, L_law22_FrameNewRejects, A_law22_FrameNewRejects, R_law22_FrameNewRejects⟩
theorem env_law22_FrameNewRejects : EnvOK Tryd.prog InvN ⟨[], []⟩ ∧ AllOK Tryd.prog InvN [S_ref01_Full, S_law22_awake] := ⟨⟨allC_nil, allL_nil⟩, (allOK_cons ok_ref01_Full.any (allOK_cons ok_law22_awake allOK_nil))⟩
theorem okG_law22_FrameNewRejects (vs : List Value) : (evFM ⟨[], []⟩ Tryd.prog [S_ref01_Full, S_law22_awake] 1000 3 (inL A_law22_FrameNewRejects vs) R_law22_FrameNewRejects).goodX R_law22_FrameNewRejects = true := by kernel_rfl
theorem ok_law22_FrameNewRejects : SumOK Tryd.prog InvN S_law22_FrameNewRejects := sumOK_partL invN_stays env_law22_FrameNewRejects.1 env_law22_FrameNewRejects.2 1000 3 A_law22_FrameNewRejects R_law22_FrameNewRejects L_law22_FrameNewRejects_is okG_law22_FrameNewRejects (fun vs _ => ok_of_sure (t := evFM ⟨[], []⟩ Tryd.prog [S_ref01_Full, S_law22_awake] 1000 3 (inL A_law22_FrameNewRejects vs) R_law22_FrameNewRejects) (by kernel_rfl))
noncomputable def F_law22_FrameNewRejects (p0 : Int) : Bool := tru ((L_law22_FrameNewRejects [.int .u16 p0]).getD 0 undef)
theorem F_law22_FrameNewRejects_eq (p0 : Int) : F_law22_FrameNewRejects p0 =
    bif (p0 != 255) then
      (bif (p0 != 65535) then
        (let x0 := F_ref01_Full p0
        bif (!x0) then
          (let x1 := F_law22_awake
          bif x1 then
            (true)
          else
            (false))
        else
          (let x2 := F_law22_awake
          bif x2 then
            (false)
          else
            (false)))
      else
        (let x3 := F_ref01_Full p0
        bif (!x3) then
          (let x4 := F_law22_awake
          bif x4 then
            (false)
          else
            (false))
        else
          (let x5 := F_law22_awake
          bif x5 then
            (true)
          else
            (false))))
    else
      (let x6 := F_ref01_Full p0
      bif (!x6) then
        (let x7 := F_law22_awake
        bif x7 then
          (false)
        else
          (false))
      else
        (let x8 := F_law22_awake
        bif x8 then
          (true)
        else
          (false))) :=
  spellV (L := L_law22_FrameNewRejects) (fun l => tru ((l).getD 0 undef)) (evFM ⟨[], []⟩ Tryd.prog [S_ref01_Full, S_law22_awake] 1000 3 (inL A_law22_FrameNewRejects [.int .u16 p0]) R_law22_FrameNewRejects) (L_law22_FrameNewRejects_is _) (by kernel_rfl)

/-! compositor/compositorlaw22.FrameScaledSource -/
def A_law22_FrameScaledSource : List PS := [.agg [.i .i64, .i .i64, .i .i64, .i .i64, .i .i64, .i .i64, .i .i64, .i .i64, .i .i64, .i .i64, .i .i64], .agg [.i .i64, .i .i64, .i .i64, .i .i64, .i .i64], .c (.i .i64), .c (.i .i64), .c (.i .i64)]
def R_law22_FrameScaledSource : RS := .one (.c (.b))
noncomputable def L_law22_FrameScaledSource : List Value → List Value := Classical.choose (veil fun vs => (evFM ⟨[], [LC_frame_Machine_Draw]⟩ Tryd.prog [S_gen_Max, S_gen_Sample, S_gen_Pixel, S_gen_Op, S_ref06_Both, S_law22_awake] 1000 4 (inL A_law22_FrameScaledSource vs) R_law22_FrameScaledSource).outL)
theorem L_law22_FrameScaledSource_is (vs : List Value) : L_law22_FrameScaledSource vs = (evFM ⟨[], [LC_frame_Machine_Draw]⟩ Tryd.prog [S_gen_Max, S_gen_Sample, S_gen_Pixel, S_gen_Op, S_ref06_Both, S_law22_awake] 1000 4 (inL A_law22_FrameScaledSource vs) R_law22_FrameScaledSource).outL := Classical.choose_spec (veil fun vs => (evFM ⟨[], [LC_frame_Machine_Draw]⟩ Tryd.prog [S_gen_Max, S_gen_Sample, S_gen_Pixel, S_gen_Op, S_ref06_Both, S_law22_awake] 1000 4 (inL A_law22_FrameScaledSource vs) R_law22_FrameScaledSource).outL) vs
noncomputable def S_law22_FrameScaledSource : Sum := ⟨4, L_law22_FrameScaledSource, A_law22_FrameScaledSource, R_law22_FrameScaledSource⟩
theorem env_law22_FrameScaledSource : EnvOK Tryd.prog InvN ⟨[], [LC_frame_Machine_Draw]⟩ ∧ AllOK Tryd.prog InvN [S_gen_Max, S_gen_Sample, S_gen_Pixel, S_gen_Op, S_ref06_Both, S_law22_awake] := ⟨⟨allC_nil, (allL_cons ok_frame_Machine_Draw allL_nil)⟩, (allOK_cons ok_gen_Max.any (allOK_cons ok_gen_Sample.any (allOK_cons ok_gen_Pixel (allOK_cons ok_gen_Op (allOK_cons ok_ref06_Both (allOK_cons ok_law22_awake allOK_nil))))))⟩
theorem okG_law22_FrameScaledSource (vs : List Value) : (evFM ⟨[], [LC_frame_Machine_Draw]⟩ Tryd.prog [S_gen_Max, S_gen_Sample, S_gen_Pixel, S_gen_Op, S_ref06_Both, S_law22_awake] 1000 4 (inL A_law22_FrameScaledSource vs) R_law22_FrameScaledSource).goodX R_law22_FrameScaledSource = true := by kernel_rfl
theorem okB_law22_FrameScaledSource (p0 : Int) (p1 : Int) (p2 : Int) (p3 : Int) (p4 : Int) (p5 : Int) (p6 : Int) (p7 : Int) (p8 : Int) (p9 : Int) (p10 : Int) (p11 : Int) (p12 : Int) (p13 : Int) (p14 : Int) (p15 : Int) (p16 : Int) (p17 : Int) (p18 : Int) : (evFM ⟨[], [LC_frame_Machine_Draw]⟩ Tryd.prog [S_gen_Max, S_gen_Sample, S_gen_Pixel, S_gen_Op, S_ref06_Both, S_law22_awake] 1000 4 (inL A_law22_FrameScaledSource [.int .i64 p0, .int .i64 p1, .int .i64 p2, .int .i64 p3, .int .i64 p4, .int .i64 p5, .int .i64 p6, .int .i64 p7, .int .i64 p8, .int .i64 p9, .int .i64 p10, .int .i64 p11, .int .i64 p12, .int .i64 p13, .int .i64 p14, .int .i64 p15, .int .i64 p16, .int .i64 p17, .int .i64 p18]) R_law22_FrameScaledSource).ok =
    let x0 := F_gen_Max p18
    bif (x0 != 255) then
      (bif (x0 != 65535) then
        (true)
      else
        (let x1 := F_law22_awake
        bif (!x1) then
          (true)
        else
          (let x2 := F_gen_Op p0 p1 p2 p3 p4 p5 p6 p7 p8 p9 p10 false 3 0 0 3 3 true x0
          bif (x2.2.2.2.2.1 == 0) then
            (let x3 := F_gen_Pixel p11 p12 p13 p14 p15 x0
            bif (pre_frame_Machine_Draw [.int .i64 x2.1, .int .i64 x2.2.1, .int .i64 x2.2.2.1, .int .i64 x2.2.2.2.1, .int .i64 x2.2.2.2.2.1, .int .i64 x2.2.2.2.2.2.1, .int .i64 x2.2.2.2.2.2.2.1, .int .u16 x2.2.2.2.2.2.2.2.1, .int .i64 x2.2.2.2.2.2.2.2.2.1, .int .i64 x2.2.2.2.2.2.2.2.2.2.1, .bool x2.2.2.2.2.2.2.2.2.2.2.1, .bool x2.2.2.2.2.2.2.2.2.2.2.2, .int .u16 x3.1, .int .u16 x3.2.1, .int .u16 x3.2.2.1, .int .u16 x3.2.2.2.1, .int .u16 x3.2.2.2.2, .int .u16 (IntKind.u16.wrap p17), .int .u16 x0, (LSV 23 1 [.int .i64 2, .int .i64 0, .int .i64 0, .int .i64 0, .int .i64 0, .int .i64 0, .int .i64 0, .int .u16 0, .int .i64 0, .int .i64 0, .bool true, .bool false, .int .u16 0, .int .u16 0, .int .u16 0, .int .u16 0, .int .u16 0, .int .u16 0, .int .u16 0, .int .u16 0, .int .u16 0, .int .u16 0, .int .u16 0])]) then
              (true)
            else
              (false))
          else
            (let x4 := F_gen_Pixel p11 p12 p13 p14 p15 x0
            let x5 := F_gen_Sample p16 x0
            bif (pre_frame_Machine_Draw [.int .i64 x2.1, .int .i64 x2.2.1, .int .i64 x2.2.2.1, .int .i64 x2.2.2.2.1, .int .i64 x2.2.2.2.2.1, .int .i64 x2.2.2.2.2.2.1, .int .i64 x2.2.2.2.2.2.2.1, .int .u16 x2.2.2.2.2.2.2.2.1, .int .i64 x2.2.2.2.2.2.2.2.2.1, .int .i64 x2.2.2.2.2.2.2.2.2.2.1, .bool x2.2.2.2.2.2.2.2.2.2.2.1, .bool x2.2.2.2.2.2.2.2.2.2.2.2, .int .u16 x4.1, .int .u16 x4.2.1, .int .u16 x4.2.2.1, .int .u16 x4.2.2.2.1, .int .u16 x4.2.2.2.2, .int .u16 x5, .int .u16 x0, (LSV 23 1 [.int .i64 2, .int .i64 0, .int .i64 0, .int .i64 0, .int .i64 0, .int .i64 0, .int .i64 0, .int .u16 0, .int .i64 0, .int .i64 0, .bool true, .bool false, .int .u16 0, .int .u16 0, .int .u16 0, .int .u16 0, .int .u16 0, .int .u16 0, .int .u16 0, .int .u16 0, .int .u16 0, .int .u16 0, .int .u16 0])]) then
              (true)
            else
              (false)))))
    else
      (let x6 := F_law22_awake
      bif (!x6) then
        (true)
      else
        (let x7 := F_gen_Op p0 p1 p2 p3 p4 p5 p6 p7 p8 p9 p10 false 3 0 0 3 3 true x0
        bif (x7.2.2.2.2.1 == 0) then
          (let x8 := F_gen_Pixel p11 p12 p13 p14 p15 x0
          bif (pre_frame_Machine_Draw [.int .i64 x7.1, .int .i64 x7.2.1, .int .i64 x7.2.2.1, .int .i64 x7.2.2.2.1, .int .i64 x7.2.2.2.2.1, .int .i64 x7.2.2.2.2.2.1, .int .i64 x7.2.2.2.2.2.2.1, .int .u16 x7.2.2.2.2.2.2.2.1, .int .i64 x7.2.2.2.2.2.2.2.2.1, .int .i64 x7.2.2.2.2.2.2.2.2.2.1, .bool x7.2.2.2.2.2.2.2.2.2.2.1, .bool x7.2.2.2.2.2.2.2.2.2.2.2, .int .u16 x8.1, .int .u16 x8.2.1, .int .u16 x8.2.2.1, .int .u16 x8.2.2.2.1, .int .u16 x8.2.2.2.2, .int .u16 (IntKind.u16.wrap p17), .int .u16 x0, (LSV 23 1 [.int .i64 2, .int .i64 0, .int .i64 0, .int .i64 0, .int .i64 0, .int .i64 0, .int .i64 0, .int .u16 0, .int .i64 0, .int .i64 0, .bool true, .bool false, .int .u16 0, .int .u16 0, .int .u16 0, .int .u16 0, .int .u16 0, .int .u16 0, .int .u16 0, .int .u16 0, .int .u16 0, .int .u16 0, .int .u16 0])]) then
            (true)
          else
            (false))
        else
          (let x9 := F_gen_Pixel p11 p12 p13 p14 p15 x0
          let x10 := F_gen_Sample p16 x0
          bif (pre_frame_Machine_Draw [.int .i64 x7.1, .int .i64 x7.2.1, .int .i64 x7.2.2.1, .int .i64 x7.2.2.2.1, .int .i64 x7.2.2.2.2.1, .int .i64 x7.2.2.2.2.2.1, .int .i64 x7.2.2.2.2.2.2.1, .int .u16 x7.2.2.2.2.2.2.2.1, .int .i64 x7.2.2.2.2.2.2.2.2.1, .int .i64 x7.2.2.2.2.2.2.2.2.2.1, .bool x7.2.2.2.2.2.2.2.2.2.2.1, .bool x7.2.2.2.2.2.2.2.2.2.2.2, .int .u16 x9.1, .int .u16 x9.2.1, .int .u16 x9.2.2.1, .int .u16 x9.2.2.2.1, .int .u16 x9.2.2.2.2, .int .u16 x10, .int .u16 x0, (LSV 23 1 [.int .i64 2, .int .i64 0, .int .i64 0, .int .i64 0, .int .i64 0, .int .i64 0, .int .i64 0, .int .u16 0, .int .i64 0, .int .i64 0, .bool true, .bool false, .int .u16 0, .int .u16 0, .int .u16 0, .int .u16 0, .int .u16 0, .int .u16 0, .int .u16 0, .int .u16 0, .int .u16 0, .int .u16 0, .int .u16 0])]) then
            (true)
          else
            (false)))) := (okR_eq _).trans (by kernel_rfl)
theorem okA_law22_FrameScaledSource (h : ∀ p0 p1 p2 p3 p4 p5 p6 p7 p8 p9 p10 p11 p12 p13 p14 p15 p16 p17 p18 , IntKind.i64.min ≤ p0 → p0 ≤ IntKind.i64.max → IntKind.i64.min ≤ p1 → p1 ≤ IntKind.i64.max → IntKind.i64.min ≤ p2 → p2 ≤ IntKind.i64.max → IntKind.i64.min ≤ p3 → p3 ≤ IntKind.i64.max → IntKind.i64.min ≤ p4 → p4 ≤ IntKind.i64.max → IntKind.i64.min ≤ p5 → p5 ≤ IntKind.i64.max → IntKind.i64.min ≤ p6 → p6 ≤ IntKind.i64.max → IntKind.i64.min ≤ p7 → p7 ≤ IntKind.i64.max → IntKind.i64.min ≤ p8 → p8 ≤ IntKind.i64.max → IntKind.i64.min ≤ p9 → p9 ≤ IntKind.i64.max → IntKind.i64.min ≤ p10 → p10 ≤ IntKind.i64.max → IntKind.i64.min ≤ p11 → p11 ≤ IntKind.i64.max → IntKind.i64.min ≤ p12 → p12 ≤ IntKind.i64.max → IntKind.i64.min ≤ p13 → p13 ≤ IntKind.i64.max → IntKind.i64.min ≤ p14 → p14 ≤ IntKind.i64.max → IntKind.i64.min ≤ p15 → p15 ≤ IntKind.i64.max → IntKind.i64.min ≤ p16 → p16 ≤ IntKind.i64.max → IntKind.i64.min ≤ p17 → p17 ≤ IntKind.i64.max → IntKind.i64.min ≤ p18 → p18 ≤ IntKind.i64.max → (evFM ⟨[], [LC_frame_Machine_Draw]⟩ Tryd.prog [S_gen_Max, S_gen_Sample, S_gen_Pixel, S_gen_Op, S_ref06_Both, S_law22_awake] 1000 4 (inL A_law22_FrameScaledSource [.int .i64 p0, .int .i64 p1, .int .i64 p2, .int .i64 p3, .int .i64 p4, .int .i64 p5, .int .i64 p6, .int .i64 p7, .int .i64 p8, .int .i64 p9, .int .i64 p10, .int .i64 p11, .int .i64 p12, .int .i64 p13, .int .i64 p14, .int .i64 p15, .int .i64 p16, .int .i64 p17, .int .i64 p18]) R_law22_FrameScaledSource).ok = true) : SumOK Tryd.prog InvN S_law22_FrameScaledSource := sumOK_partL invN_stays env_law22_FrameScaledSource.1 env_law22_FrameScaledSource.2 1000 4 A_law22_FrameScaledSource R_law22_FrameScaledSource L_law22_FrameScaledSource_is okG_law22_FrameScaledSource (fun vs hk => by
  obtain ⟨_, _, rfl, ⟨p0, rfl, p0lo, p0hi⟩, _, _, rfl, ⟨p1, rfl, p1lo, p1hi⟩, _, _, rfl, ⟨p2, rfl, p2lo, p2hi⟩, _, _, rfl, ⟨p3, rfl, p3lo, p3hi⟩, _, _, rfl, ⟨p4, rfl, p4lo, p4hi⟩, _, _, rfl, ⟨p5, rfl, p5lo, p5hi⟩, _, _, rfl, ⟨p6, rfl, p6lo, p6hi⟩, _, _, rfl, ⟨p7, rfl, p7lo, p7hi⟩, _, _, rfl, ⟨p8, rfl, p8lo, p8hi⟩, _, _, rfl, ⟨p9, rfl, p9lo, p9hi⟩, _, _, rfl, ⟨p10, rfl, p10lo, p10hi⟩, _, _, rfl, ⟨p11, rfl, p11lo, p11hi⟩, _, _, rfl, ⟨p12, rfl, p12lo, p12hi⟩, _, _, rfl, ⟨p13, rfl, p13lo, p13hi⟩, _, _, rfl, ⟨p14, rfl, p14lo, p14hi⟩, _, _, rfl, ⟨p15, rfl, p15lo, p15hi⟩, _, _, rfl, ⟨p16, rfl, p16lo, p16hi⟩, _, _, rfl, ⟨p17, rfl, p17lo, p17hi⟩, _, _, rfl, ⟨p18, rfl, p18lo, p18hi⟩, rfl⟩ := hk
  exact h p0 p1 p2 p3 p4 p5 p6 p7 p8 p9 p10 p11 p12 p13 p14 p15 p16 p17 p18 p0lo p0hi p1lo p1hi p2lo p2hi p3lo p3hi p4lo p4hi p5lo p5hi p6lo p6hi p7lo p7hi p8lo p8hi p9lo p9hi p10lo p10hi p11lo p11hi p12lo p12hi p13lo p13hi p14lo p14hi p15lo p15hi p16lo p16hi p17lo p17hi p18lo p18hi)
theorem ok_law22_FrameScaledSource : SumOK Tryd.prog InvN S_law22_FrameScaledSource := okA_law22_FrameScaledSource (by
  intro p0 p1 p2 p3 p4 p5 p6 p7 p8 p9 p10 p11 p12 p13 p14 p15 p16 p17 p18
  intros
  rw [okB_law22_FrameScaledSource]
  dsimp only
  have hp : ∀ a b c d e f g h i j k l m n o p q r s, pre_frame_Machine_Draw [a, b, c, d, e, f, g, h, i, j, k, l, m, n, o, p, q, r, s, (LSV 23 1 [.int .i64 2, .int .i64 0, .int .i64 0, .int .i64 0, .int .i64 0, .int .i64 0, .int .i64 0, .int .u16 0, .int .i64 0, .int .i64 0, .bool true, .bool false, .int .u16 0, .int .u16 0, .int .u16 0, .int .u16 0, .int .u16 0, .int .u16 0, .int .u16 0, .int .u16 0, .int .u16 0, .int .u16 0, .int .u16 0])] = true := fun _ _ _ _ _ _ _ _ _ _ _ _ _ _ _ _ _ _ _ => lenOK.lit _ _
  simp only [hp, cond_true, Bool.cond_self])
noncomputable def F_law22_FrameScaledSource (p0 : Int) (p1 : Int) (p2 : Int) (p3 : Int) (p4 : Int) (p5 : Int) (p6 : Int) (p7 : Int) (p8 : Int) (p9 : Int) (p10 : Int) (p11 : Int) (p12 : Int) (p13 : Int) (p14 : Int) (p15 : Int) (p16 : Int) (p17 : Int) (p18 : Int) : Bool := tru ((L_law22_FrameScaledSource [.int .i64 p0, .int .i64 p1, .int .i64 p2, .int .i64 p3, .int .i64 p4, .int .i64 p5, .int .i64 p6, .int .i64 p7, .int .i64 p8, .int .i64 p9, .int .i64 p10, .int .i64 p11, .int .i64 p12, .int .i64 p13, .int .i64 p14, .int .i64 p15, .int .i64 p16, .int .i64 p17, .int .i64 p18]).getD 0 undef)
theorem F_law22_FrameScaledSource_eq (p0 : Int) (p1 : Int) (p2 : Int) (p3 : Int) (p4 : Int) (p5 : Int) (p6 : Int) (p7 : Int) (p8 : Int) (p9 : Int) (p10 : Int) (p11 : Int) (p12 : Int) (p13 : Int) (p14 : Int) (p15 : Int) (p16 : Int) (p17 : Int) (p18 : Int) : F_law22_FrameScaledSource p0 p1 p2 p3 p4 p5 p6 p7 p8 p9 p10 p11 p12 p13 p14 p15 p16 p17 p18 =
    let x0 := F_gen_Max p18
    bif (x0 != 255) then
      (bif (x0 != 65535) then
        (false)
      else
        (let x1 := F_law22_awake
        bif (!x1) then
          (false)
        else
          (let x2 := F_gen_Op p0 p1 p2 p3 p4 p5 p6 p7 p8 p9 p10 false 3 0 0 3 3 true x0
          bif (x2.2.2.2.2.1 == 0) then
            (let x3 := F_gen_Pixel p11 p12 p13 p14 p15 x0
            bif (pre_frame_Machine_Draw [.int .i64 x2.1, .int .i64 x2.2.1, .int .i64 x2.2.2.1, .int .i64 x2.2.2.2.1, .int .i64 x2.2.2.2.2.1, .int .i64 x2.2.2.2.2.2.1, .int .i64 x2.2.2.2.2.2.2.1, .int .u16 x2.2.2.2.2.2.2.2.1, .int .i64 x2.2.2.2.2.2.2.2.2.1, .int .i64 x2.2.2.2.2.2.2.2.2.2.1, .bool x2.2.2.2.2.2.2.2.2.2.2.1, .bool x2.2.2.2.2.2.2.2.2.2.2.2, .int .u16 x3.1, .int .u16 x3.2.1, .int .u16 x3.2.2.1, .int .u16 x3.2.2.2.1, .int .u16 x3.2.2.2.2, .int .u16 (IntKind.u16.wrap p17), .int .u16 x0, (LSV 23 1 [.int .i64 2, .int .i64 0, .int .i64 0, .int .i64 0, .int .i64 0, .int .i64 0, .int .i64 0, .int .u16 0, .int .i64 0, .int .i64 0, .bool true, .bool false, .int .u16 0, .int .u16 0, .int .u16 0, .int .u16 0, .int .u16 0, .int .u16 0, .int .u16 0, .int .u16 0, .int .u16 0, .int .u16 0, .int .u16 0])]) then
              (let x4 := LF_frame_Machine_Draw [.int .i64 x2.1, .int .i64 x2.2.1, .int .i64 x2.2.2.1, .int .i64 x2.2.2.2.1, .int .i64 x2.2.2.2.2.1, .int .i64 x2.2.2.2.2.2.1, .int .i64 x2.2.2.2.2.2.2.1, .int .u16 x2.2.2.2.2.2.2.2.1, .int .i64 x2.2.2.2.2.2.2.2.2.1, .int .i64 x2.2.2.2.2.2.2.2.2.2.1, .bool x2.2.2.2.2.2.2.2.2.2.2.1, .bool x2.2.2.2.2.2.2.2.2.2.2.2, .int .u16 x3.1, .int .u16 x3.2.1, .int .u16 x3.2.2.1, .int .u16 x3.2.2.2.1, .int .u16 x3.2.2.2.2, .int .u16 (IntKind.u16.wrap p17), .int .u16 x0, (LSV 23 1 [.int .i64 2, .int .i64 0, .int .i64 0, .int .i64 0, .int .i64 0, .int .i64 0, .int .i64 0, .int .u16 0, .int .i64 0, .int .i64 0, .bool true, .bool false, .int .u16 0, .int .u16 0, .int .u16 0, .int .u16 0, .int .u16 0, .int .u16 0, .int .u16 0, .int .u16 0, .int .u16 0, .int .u16 0, .int .u16 0])]
              bif ((num (x4.getD 6 undef)) == 0) then
                (let x5 := F_ref06_Both x3.1 x3.2.1 x3.2.2.1 x3.2.2.2.1 x3.2.2.2.2 x0 x2.2.2.2.2.2.2.2.1 x0
                ((((num (x4.getD 1 undef)) == x5.1) && (((num (x4.getD 2 undef)) == x5.2.1) && ((num (x4.getD 3 undef)) == x5.2.2.1))) && (((num (x4.getD 4 undef)) == x5.2.2.2.1) && ((num (x4.getD 5 undef)) == x5.2.2.2.2.1))))
              else
                (false))
            else
              ((tru undef)))
          else
            (let x6 := F_gen_Pixel p11 p12 p13 p14 p15 x0
            let x7 := F_gen_Sample p16 x0
            bif (pre_frame_Machine_Draw [.int .i64 x2.1, .int .i64 x2.2.1, .int .i64 x2.2.2.1, .int .i64 x2.2.2.2.1, .int .i64 x2.2.2.2.2.1, .int .i64 x2.2.2.2.2.2.1, .int .i64 x2.2.2.2.2.2.2.1, .int .u16 x2.2.2.2.2.2.2.2.1, .int .i64 x2.2.2.2.2.2.2.2.2.1, .int .i64 x2.2.2.2.2.2.2.2.2.2.1, .bool x2.2.2.2.2.2.2.2.2.2.2.1, .bool x2.2.2.2.2.2.2.2.2.2.2.2, .int .u16 x6.1, .int .u16 x6.2.1, .int .u16 x6.2.2.1, .int .u16 x6.2.2.2.1, .int .u16 x6.2.2.2.2, .int .u16 x7, .int .u16 x0, (LSV 23 1 [.int .i64 2, .int .i64 0, .int .i64 0, .int .i64 0, .int .i64 0, .int .i64 0, .int .i64 0, .int .u16 0, .int .i64 0, .int .i64 0, .bool true, .bool false, .int .u16 0, .int .u16 0, .int .u16 0, .int .u16 0, .int .u16 0, .int .u16 0, .int .u16 0, .int .u16 0, .int .u16 0, .int .u16 0, .int .u16 0])]) then
              (let x8 := LF_frame_Machine_Draw [.int .i64 x2.1, .int .i64 x2.2.1, .int .i64 x2.2.2.1, .int .i64 x2.2.2.2.1, .int .i64 x2.2.2.2.2.1, .int .i64 x2.2.2.2.2.2.1, .int .i64 x2.2.2.2.2.2.2.1, .int .u16 x2.2.2.2.2.2.2.2.1, .int .i64 x2.2.2.2.2.2.2.2.2.1, .int .i64 x2.2.2.2.2.2.2.2.2.2.1, .bool x2.2.2.2.2.2.2.2.2.2.2.1, .bool x2.2.2.2.2.2.2.2.2.2.2.2, .int .u16 x6.1, .int .u16 x6.2.1, .int .u16 x6.2.2.1, .int .u16 x6.2.2.2.1, .int .u16 x6.2.2.2.2, .int .u16 x7, .int .u16 x0, (LSV 23 1 [.int .i64 2, .int .i64 0, .int .i64 0, .int .i64 0, .int .i64 0, .int .i64 0, .int .i64 0, .int .u16 0, .int .i64 0, .int .i64 0, .bool true, .bool false, .int .u16 0, .int .u16 0, .int .u16 0, .int .u16 0, .int .u16 0, .int .u16 0, .int .u16 0, .int .u16 0, .int .u16 0, .int .u16 0, .int .u16 0])]
              bif ((num (x8.getD 6 undef)) == 0) then
                (let x9 := F_ref06_Both x6.1 x6.2.1 x6.2.2.1 x6.2.2.2.1 x6.2.2.2.2 x7 x2.2.2.2.2.2.2.2.1 x0
                ((((num (x8.getD 1 undef)) == x9.1) && (((num (x8.getD 2 undef)) == x9.2.1) && ((num (x8.getD 3 undef)) == x9.2.2.1))) && (((num (x8.getD 4 undef)) == x9.2.2.2.1) && ((num (x8.getD 5 undef)) == x9.2.2.2.2.1))))
              else
                (false))
            else
              ((tru undef))))))
    else
      (let x10 := F_law22_awake
      bif (!x10) then
        (false)
      else
        (let x11 := F_gen_Op p0 p1 p2 p3 p4 p5 p6 p7 p8 p9 p10 false 3 0 0 3 3 true x0
        bif (x11.2.2.2.2.1 == 0) then
          (let x12 := F_gen_Pixel p11 p12 p13 p14 p15 x0
          bif (pre_frame_Machine_Draw [.int .i64 x11.1, .int .i64 x11.2.1, .int .i64 x11.2.2.1, .int .i64 x11.2.2.2.1, .int .i64 x11.2.2.2.2.1, .int .i64 x11.2.2.2.2.2.1, .int .i64 x11.2.2.2.2.2.2.1, .int .u16 x11.2.2.2.2.2.2.2.1, .int .i64 x11.2.2.2.2.2.2.2.2.1, .int .i64 x11.2.2.2.2.2.2.2.2.2.1, .bool x11.2.2.2.2.2.2.2.2.2.2.1, .bool x11.2.2.2.2.2.2.2.2.2.2.2, .int .u16 x12.1, .int .u16 x12.2.1, .int .u16 x12.2.2.1, .int .u16 x12.2.2.2.1, .int .u16 x12.2.2.2.2, .int .u16 (IntKind.u16.wrap p17), .int .u16 x0, (LSV 23 1 [.int .i64 2, .int .i64 0, .int .i64 0, .int .i64 0, .int .i64 0, .int .i64 0, .int .i64 0, .int .u16 0, .int .i64 0, .int .i64 0, .bool true, .bool false, .int .u16 0, .int .u16 0, .int .u16 0, .int .u16 0, .int .u16 0, .int .u16 0, .int .u16 0, .int .u16 0, .int .u16 0, .int .u16 0, .int .u16 0])]) then
            (let x13 := LF_frame_Machine_Draw [.int .i64 x11.1, .int .i64 x11.2.1, .int .i64 x11.2.2.1, .int .i64 x11.2.2.2.1, .int .i64 x11.2.2.2.2.1, .int .i64 x11.2.2.2.2.2.1, .int .i64 x11.2.2.2.2.2.2.1, .int .u16 x11.2.2.2.2.2.2.2.1, .int .i64 x11.2.2.2.2.2.2.2.2.1, .int .i64 x11.2.2.2.2.2.2.2.2.2.1, .bool x11.2.2.2.2.2.2.2.2.2.2.1, .bool x11.2.2.2.2.2.2.2.2.2.2.2, .int .u16 x12.1, .int .u16 x12.2.1, .int .u16 x12.2.2.1, .int .u16 x12.2.2.2.1, .int .u16 x12.2.2.2.2, .int .u16 (IntKind.u16.wrap p17), .int .u16 x0, (LSV 23 1 [.int .i64 2, .int .i64 0, .int .i64 0, .int .i64 0, .int .i64 0, .int .i64 0, .int .i64 0, .int .u16 0, .int .i64 0, .int .i64 0, .bool true, .bool false, .int .u16 0, .int .u16 0, .int .u16 0, .int .u16 0, .int .u16 0, .int .u16 0, .int .u16 0, .int .u16 0, .int .u16 0, .int .u16 0, .int .u16 0])]
            bif ((num (x13.getD 6 undef)) == 0) then
              (let x14 := F_ref06_Both x12.1 x12.2.1 x12.2.2.1 x12.2.2.2.1 x12.2.2.2.2 x0 x11.2.2.2.2.2.2.2.1 x0
              ((((num (x13.getD 1 undef)) == x14.1) && (((num (x13.getD 2 undef)) == x14.2.1) && ((num (x13.getD 3 undef)) == x14.2.2.1))) && (((num (x13.getD 4 undef)) == x14.2.2.2.1) && ((num (x13.getD 5 undef)) == x14.2.2.2.2.1))))
            else
              (false))
          else
            ((tru undef)))
        else
          (let x15 := F_gen_Pixel p11 p12 p13 p14 p15 x0
          let x16 := F_gen_Sample p16 x0
          bif (pre_frame_Machine_Draw [.int .i64 x11.1, .int .i64 x11.2.1, .int .i64 x11.2.2.1, .int .i64 x11.2.2.2.1, .int .i64 x11.2.2.2.2.1, .int .i64 x11.2.2.2.2.2.1, .int .i64 x11.2.2.2.2.2.2.1, .int .u16 x11.2.2.2.2.2.2.2.1, .int .i64 x11.2.2.2.2.2.2.2.2.1, .int .i64 x11.2.2.2.2.2.2.2.2.2.1, .bool x11.2.2.2.2.2.2.2.2.2.2.1, .bool x11.2.2.2.2.2.2.2.2.2.2.2, .int .u16 x15.1, .int .u16 x15.2.1, .int .u16 x15.2.2.1, .int .u16 x15.2.2.2.1, .int .u16 x15.2.2.2.2, .int .u16 x16, .int .u16 x0, (LSV 23 1 [.int .i64 2, .int .i64 0, .int .i64 0, .int .i64 0, .int .i64 0, .int .i64 0, .int .i64 0, .int .u16 0, .int .i64 0, .int .i64 0, .bool true, .bool false, .int .u16 0, .int .u16 0, .int .u16 0, .int .u16 0, .int .u16 0, .int .u16 0, .int .u16 0, .int .u16 0, .int .u16 0, .int .u16 0, .int .u16 0])]) then
            (let x17 := LF_frame_Machine_Draw [.int .i64 x11.1, .int .i64 x11.2.1, .int .i64 x11.2.2.1, .int .i64 x11.2.2.2.1, .int .i64 x11.2.2.2.2.1, .int .i64 x11.2.2.2.2.2.1, .int .i64 x11.2.2.2.2.2.2.1, .int .u16 x11.2.2.2.2.2.2.2.1, .int .i64 x11.2.2.2.2.2.2.2.2.1, .int .i64 x11.2.2.2.2.2.2.2.2.2.1, .bool x11.2.2.2.2.2.2.2.2.2.2.1, .bool x11.2.2.2.2.2.2.2.2.2.2.2, .int .u16 x15.1, .int .u16 x15.2.1, .int .u16 x15.2.2.1, .int .u16 x15.2.2.2.1, .int .u16 x15.2.2.2.2, .int .u16 x16, .int .u16 x0, (LSV 23 1 [.int .i64 2, .int .i64 0, .int .i64 0, .int .i64 0, .int .i64 0, .int .i64 0, .int .i64 0, .int .u16 0, .int .i64 0, .int .i64 0, .bool true, .bool false, .int .u16 0, .int .u16 0, .int .u16 0, .int .u16 0, .int .u16 0, .int .u16 0, .int .u16 0, .int .u16 0, .int .u16 0, .int .u16 0, .int .u16 0])]
            bif ((num (x17.getD 6 undef)) == 0) then
              (let x18 := F_ref06_Both x15.1 x15.2.1 x15.2.2.1 x15.2.2.2.1 x15.2.2.2.2 x16 x11.2.2.2.2.2.2.2.1 x0
              ((((num (x17.getD 1 undef)) == x18.1) && (((num (x17.getD 2 undef)) == x18.2.1) && ((num (x17.getD 3 undef)) == x18.2.2.1))) && (((num (x17.getD 4 undef)) == x18.2.2.2.1) && ((num (x17.getD 5 undef)) == x18.2.2.2.2.1))))
            else
              (false))
          else
            ((tru undef))))) :=
  spellV (L := L_law22_FrameScaledSource) (fun l => tru ((l).getD 0 undef)) (evFM ⟨[], [LC_frame_Machine_Draw]⟩ Tryd.prog [S_gen_Max, S_gen_Sample, S_gen_Pixel, S_gen_Op, S_ref06_Both, S_law22_awake] 1000 4 (inL A_law22_FrameScaledSource [.int .i64 p0, .int .i64 p1, .int .i64 p2, .int .i64 p3, .int .i64 p4, .int .i64 p5, .int .i64 p6, .int .i64 p7, .int .i64 p8, .int .i64 p9, .int .i64 p10, .int .i64 p11, .int .i64 p12, .int .i64 p13, .int .i64 p14, .int .i64 p15, .int .i64 p16, .int .i64 p17, .int .i64 p18]) R_law22_FrameScaledSource) (L_law22_FrameScaledSource_is _) (by kernel_rfl)

/-! compositor/compositorlaw22.FrameNests -/
def A_law22_FrameNests : List PS := [.c (.i .i64), .agg [.i .i64, .i .i64, .i .i64, .i .i64, .i .i64, .i .i64, .i .i64, .i .i64, .i .i64, .i .i64, .i .i64]]
def R_law22_FrameNests : RS := .one (.c (.b))
def head_law22_FrameNests_7 : Shp := ⟨[.any, .any, .any, .any, .any, .p (.c (.p 0 0)), .any, .p (.c (.h (.i .i64))), .p (.c (.p 2 0)), .p (.c (.h (.i .i64))), .any, .any, .any, .any, .any, .any, .any, .any, .any, .any, .any, .any, .any, .any, .any, .any, .any, .any, .any, .any, .any, .any, .any, .any, .any, .any, .any, .any, .any, .any, .any, .any, .any, .any, .any, .any, .any, .any, .any, .any, .any, .any, .any, .any, .any, .any, .any, .any, .any, .any, .any, .any, .any, .any, .any, .any, .any, .any, .any, .any, .any, .any], [(0, ⟨[.h (.i .u16), .ar 1 [.i .i64, .i .i64, .i .i64, .i .i64, .i .i64, .i .i64, .i .i64, .i .u16, .i .i64, .i .i64, .b, .b, .i .u16, .i .u16, .i .u16, .i .u16, .i .u16, .i .u16, .i .u16, .i .u16, .i .u16, .i .u16, .i .u16] 64], 67, true, none⟩), (1, ⟨[], 64, true, some [.i .i64, .i .i64, .i .i64, .i .i64, .i .i64, .i .i64, .i .i64, .i .u16, .i .i64, .i .i64, .b, .b, .i .u16, .i .u16, .i .u16, .i .u16, .i .u16, .i .u16, .i .u16, .i .u16, .i .u16, .i .u16, .i .u16]⟩), (2, ⟨[.h (.i .i64), .h (.i .i64), .h (.i .i64), .h (.i .i64), .h (.i .i64), .h (.i .i64), .h (.i .i64), .h (.i .u16), .h (.i .i64), .h (.i .i64), .h (.b), .h (.b)], 37, true, none⟩)]⟩
def outs_law22_FrameNests_7 : List (Xt × Shp × Nat) := [(.ret, ⟨[.any, .any, .any, .any, .p (.c (.h (.b))), .any, .any, .any, .any, .any, .any, .any, .any, .any, .any, .any, .any, .any, .any, .any, .any, .any, .any, .any, .any, .any, .any, .any, .any, .any, .any, .any, .any, .any, .any, .any, .any, .any, .any, .any, .any, .any, .any, .any, .any, .any, .any, .any, .any, .any, .any, .any, .any, .any, .any, .any, .any, .any, .any, .any, .any, .any, .any, .any, .any, .any, .any, .any, .any, .any, .any, .any], []⟩, 0), (.exit 0, ⟨[.any, .any, .any, .any, .any, .p (.c (.p 0 0)), .any, .p (.c (.h (.i .i64))), .any, .any, .any, .any, .any, .any, .any, .any, .any, .any, .any, .any, .any, .any, .any, .any, .any, .any, .any, .any, .any, .any, .any, .any, .any, .any, .any, .any, .any, .any, .any, .any, .any, .any, .any, .any, .any, .any, .any, .any, .any, .any, .any, .any, .any, .any, .any, .any, .any, .any, .any, .any, .any, .any, .any, .any, .any, .any, .any, .any, .any, .any, .any, .any], [(0, ⟨[.h (.i .u16), .ar 1 [.i .i64, .i .i64, .i .i64, .i .i64, .i .i64, .i .i64, .i .i64, .i .u16, .i .i64, .i .i64, .b, .b, .i .u16, .i .u16, .i .u16, .i .u16, .i .u16, .i .u16, .i .u16, .i .u16, .i .u16, .i .u16, .i .u16] 64], 67, true, none⟩), (1, ⟨[], 64, true, some [.i .i64, .i .i64, .i .i64, .i .i64, .i .i64, .i .i64, .i .i64, .i .u16, .i .i64, .i .i64, .b, .b, .i .u16, .i .u16, .i .u16, .i .u16, .i .u16, .i .u16, .i .u16, .i .u16, .i .u16, .i .u16, .i .u16]⟩)]⟩, 2)]
noncomputable def OUT_law22_FrameNests_7 (p0 : Int) (p1 : Int) (p2 : Int) (p3 : Value) (p4 : Int) (p5 : Int) (p6 : Int) (p7 : Int) (p8 : Int) (p9 : Int) (p10 : Int) (p11 : Int) (p12 : Int) (p13 : Int) (p14 : Bool) (p15 : Bool) : List Value :=
    bif (decide (p1 < p0)) then
      (bif (pre_frame_Machine_Push [.int .i64 p4, .int .i64 p5, .int .i64 p6, .int .i64 p7, .int .i64 p8, .int .i64 p9, .int .i64 p10, .int .u16 p11, .int .i64 p12, .int .i64 p13, .bool p14, .bool p15, .int .u16 p2, p3]) then
        (let x0 := LF_frame_Machine_Push [.int .i64 p4, .int .i64 p5, .int .i64 p6, .int .i64 p7, .int .i64 p8, .int .i64 p9, .int .i64 p10, .int .u16 p11, .int .i64 p12, .int .i64 p13, .bool p14, .bool p15, .int .u16 p2, p3]
        bif (!(((num (x0.getD 1 undef)) == 0) == (decide (p1 < 64)))) then
          ([.int .i64 0, .bool false])
        else
          (bif ((num (x0.getD 1 undef)) != 0) then
            (bif ((num (x0.getD 1 undef)) != 17) then
              ([.int .i64 0, .bool false])
            else
              ([.int .i64 (-1), .int .i64 p0, .int .i64 (IntKind.i64.wrap (p1 + 1)), .int .u16 (num (x0.getD 2 undef)), (x0.getD 3 undef), .int .i64 p4, .int .i64 p5, .int .i64 p6, .int .i64 p7, .int .i64 p8, .int .i64 p9, .int .i64 p10, .int .u16 p11, .int .i64 p12, .int .i64 p13, .bool p14, .bool p15]))
          else
            ([.int .i64 (-1), .int .i64 p0, .int .i64 (IntKind.i64.wrap (p1 + 1)), .int .u16 (num (x0.getD 2 undef)), (x0.getD 3 undef), .int .i64 p4, .int .i64 p5, .int .i64 p6, .int .i64 p7, .int .i64 p8, .int .i64 p9, .int .i64 p10, .int .u16 p11, .int .i64 p12, .int .i64 p13, .bool p14, .bool p15])))
      else
        ([]))
    else
      ([.int .i64 1, .int .i64 p0, .int .u16 p2, p3])
noncomputable def OL_law22_FrameNests_7 (xs : List Value) : List Value := OUT_law22_FrameNests_7 (num (xs.getD 0 undef)) (num (xs.getD 1 undef)) (num (xs.getD 2 undef)) (xs.getD 3 undef) (num (xs.getD 4 undef)) (num (xs.getD 5 undef)) (num (xs.getD 6 undef)) (num (xs.getD 7 undef)) (num (xs.getD 8 undef)) (num (xs.getD 9 undef)) (num (xs.getD 10 undef)) (num (xs.getD 11 undef)) (num (xs.getD 12 undef)) (num (xs.getD 13 undef)) (tru (xs.getD 14 undef)) (tru (xs.getD 15 undef))
noncomputable def LF_law22_FrameNests_7 : List Value → List Value := LFof OL_law22_FrameNests_7
def pre_law22_FrameNests_7 (xs : List Value) : Bool := lenOK (xs.getD 3 undef) && (decide (0 ≤ num (xs.getD 1 undef)) && (decide (num (xs.getD 1 undef) ≤ num (xs.getD 0 undef)) && (decide (num (xs.getD 0 undef) ≤ 70) && decide (LN (xs.getD 3 undef) ≤ 1 + num (xs.getD 1 undef)))))
noncomputable def LC_law22_FrameNests_7 : LoopC := ⟨5, 7, LF_law22_FrameNests_7, pre_law22_FrameNests_7, 3, head_law22_FrameNests_7, outs_law22_FrameNests_7⟩
theorem LF_law22_FrameNests_7_go (p0 : Int) (p1 : Int) (p2 : Int) (p3 : Value) (p4 : Int) (p5 : Int) (p6 : Int) (p7 : Int) (p8 : Int) (p9 : Int) (p10 : Int) (p11 : Int) (p12 : Int) (p13 : Int) (p14 : Bool) (p15 : Bool) : LF_law22_FrameNests_7 [.int .i64 p0, .int .i64 p1, .int .u16 p2, p3, .int .i64 p4, .int .i64 p5, .int .i64 p6, .int .i64 p7, .int .i64 p8, .int .i64 p9, .int .i64 p10, .int .u16 p11, .int .i64 p12, .int .i64 p13, .bool p14, .bool p15] = goOn LF_law22_FrameNests_7 (OUT_law22_FrameNests_7 p0 p1 p2 p3 p4 p5 p6 p7 p8 p9 p10 p11 p12 p13 p14 p15) := LFof_eq _ _
theorem okBL_law22_FrameNests_7 (p0 : Int) (p1 : Int) (p2 : Int) (p3 : Value) (p4 : Int) (p5 : Int) (p6 : Int) (p7 : Int) (p8 : Int) (p9 : Int) (p10 : Int) (p11 : Int) (p12 : Int) (p13 : Int) (p14 : Bool) (p15 : Bool) : (evL ⟨[C_frame_Machine_Depth, C_frame_Machine_Result], [LC_frame_Machine_Push]⟩ Tryd.prog [S_gen_Mod, S_gen_Op, S_law22_awake] 1000 LC_law22_FrameNests_7 [.int .i64 p0, .int .i64 p1, .int .u16 p2, p3, .int .i64 p4, .int .i64 p5, .int .i64 p6, .int .i64 p7, .int .i64 p8, .int .i64 p9, .int .i64 p10, .int .u16 p11, .int .i64 p12, .int .i64 p13, .bool p14, .bool p15]).ok =
    bif (decide (p1 < p0)) then
      (bif (pre_frame_Machine_Push [.int .i64 p4, .int .i64 p5, .int .i64 p6, .int .i64 p7, .int .i64 p8, .int .i64 p9, .int .i64 p10, .int .u16 p11, .int .i64 p12, .int .i64 p13, .bool p14, .bool p15, .int .u16 p2, p3]) then
        (true)
      else
        (false))
    else
      (true) := (okR_eq _).trans (by kernel_rfl)
theorem step_law22_FrameNests_7 (p0 : Int) (p1 : Int) (p2 : Int) (p3 : Value) (p4 : Int) (p5 : Int) (p6 : Int) (p7 : Int) (p8 : Int) (p9 : Int) (p10 : Int) (p11 : Int) (p12 : Int) (p13 : Int) (p14 : Bool) (p15 : Bool) : (evL ⟨[C_frame_Machine_Depth, C_frame_Machine_Result], [LC_frame_Machine_Push]⟩ Tryd.prog [S_gen_Mod, S_gen_Op, S_law22_awake] 1000 LC_law22_FrameNests_7 [.int .i64 p0, .int .i64 p1, .int .u16 p2, p3, .int .i64 p4, .int .i64 p5, .int .i64 p6, .int .i64 p7, .int .i64 p8, .int .i64 p9, .int .i64 p10, .int .u16 p11, .int .i64 p12, .int .i64 p13, .bool p14, .bool p15]).outL = OUT_law22_FrameNests_7 p0 p1 p2 p3 p4 p5 p6 p7 p8 p9 p10 p11 p12 p13 p14 p15 := (fold_eq (fun l => l) _).trans (by kernel_rfl)
theorem one_law22_FrameNests_7 : (loopsBy Tryd.prog 5 7).length = 1 := by kernel_rfl
theorem env_law22_FrameNests_7 : EnvOK Tryd.prog InvN ⟨[C_frame_Machine_Depth, C_frame_Machine_Result], [LC_frame_Machine_Push]⟩ ∧ AllOK Tryd.prog InvN [S_gen_Mod, S_gen_Op, S_law22_awake] := ⟨⟨(allC_cons ok_frame_Machine_Depth (allC_cons ok_frame_Machine_Result allC_nil)), (allL_cons ok_frame_Machine_Push allL_nil)⟩, (allOK_cons ok_gen_Mod.any (allOK_cons ok_gen_Op (allOK_cons ok_law22_awake allOK_nil)))⟩
theorem lp_law22_FrameNests_7 (meas : List Value → Nat) (h : ∀ p0 p1 p2 p3 p4 p5 p6 p7 p8 p9 p10 p11 p12 p13 p14 p15, IntKind.i64.min ≤ p0 → p0 ≤ IntKind.i64.max → IntKind.i64.min ≤ p1 → p1 ≤ IntKind.i64.max → IntKind.u16.min ≤ p2 → p2 ≤ IntKind.u16.max → inKind (.l [.i .i64, .i .i64, .i .i64, .i .i64, .i .i64, .i .i64, .i .i64, .i .u16, .i .i64, .i .i64, .b, .b, .i .u16, .i .u16, .i .u16, .i .u16, .i .u16, .i .u16, .i .u16, .i .u16, .i .u16, .i .u16, .i .u16]) p3 → IntKind.i64.min ≤ p4 → p4 ≤ IntKind.i64.max → IntKind.i64.min ≤ p5 → p5 ≤ IntKind.i64.max → IntKind.i64.min ≤ p6 → p6 ≤ IntKind.i64.max → IntKind.i64.min ≤ p7 → p7 ≤ IntKind.i64.max → IntKind.i64.min ≤ p8 → p8 ≤ IntKind.i64.max → IntKind.i64.min ≤ p9 → p9 ≤ IntKind.i64.max → IntKind.i64.min ≤ p10 → p10 ≤ IntKind.i64.max → IntKind.u16.min ≤ p11 → p11 ≤ IntKind.u16.max → IntKind.i64.min ≤ p12 → p12 ≤ IntKind.i64.max → IntKind.i64.min ≤ p13 → p13 ≤ IntKind.i64.max → pre_law22_FrameNests_7 [.int .i64 p0, .int .i64 p1, .int .u16 p2, p3, .int .i64 p4, .int .i64 p5, .int .i64 p6, .int .i64 p7, .int .i64 p8, .int .i64 p9, .int .i64 p10, .int .u16 p11, .int .i64 p12, .int .i64 p13, .bool p14, .bool p15] = true → (evL ⟨[C_frame_Machine_Depth, C_frame_Machine_Result], [LC_frame_Machine_Push]⟩ Tryd.prog [S_gen_Mod, S_gen_Op, S_law22_awake] 1000 LC_law22_FrameNests_7 [.int .i64 p0, .int .i64 p1, .int .u16 p2, p3, .int .i64 p4, .int .i64 p5, .int .i64 p6, .int .i64 p7, .int .i64 p8, .int .i64 p9, .int .i64 p10, .int .u16 p11, .int .i64 p12, .int .i64 p13, .bool p14, .bool p15]).ok = true ∧ okO pre_law22_FrameNests_7 meas (meas [.int .i64 p0, .int .i64 p1, .int .u16 p2, p3, .int .i64 p4, .int .i64 p5, .int .i64 p6, .int .i64 p7, .int .i64 p8, .int .i64 p9, .int .i64 p10, .int .u16 p11, .int .i64 p12, .int .i64 p13, .bool p14, .bool p15]) (OUT_law22_FrameNests_7 p0 p1 p2 p3 p4 p5 p6 p7 p8 p9 p10 p11 p12 p13 p14 p15)) : LoopTrue Tryd.prog InvN LC_law22_FrameNests_7 := loop_lf env_law22_FrameNests_7 1000 LC_law22_FrameNests_7 one_law22_FrameNests_7 meas OL_law22_FrameNests_7 rfl (fun xs hk hp => by
  have hk : KindsL [.i .i64, .i .i64, .i .u16, .l [.i .i64, .i .i64, .i .i64, .i .i64, .i .i64, .i .i64, .i .i64, .i .u16, .i .i64, .i .i64, .b, .b, .i .u16, .i .u16, .i .u16, .i .u16, .i .u16, .i .u16, .i .u16, .i .u16, .i .u16, .i .u16, .i .u16], .i .i64, .i .i64, .i .i64, .i .i64, .i .i64, .i .i64, .i .i64, .i .u16, .i .i64, .i .i64, .b, .b] xs := hk
  obtain ⟨_, _, rfl, ⟨p0, rfl, p0lo, p0hi⟩, _, _, rfl, ⟨p1, rfl, p1lo, p1hi⟩, _, _, rfl, ⟨p2, rfl, p2lo, p2hi⟩, p3, _, rfl, p3k, _, _, rfl, ⟨p4, rfl, p4lo, p4hi⟩, _, _, rfl, ⟨p5, rfl, p5lo, p5hi⟩, _, _, rfl, ⟨p6, rfl, p6lo, p6hi⟩, _, _, rfl, ⟨p7, rfl, p7lo, p7hi⟩, _, _, rfl, ⟨p8, rfl, p8lo, p8hi⟩, _, _, rfl, ⟨p9, rfl, p9lo, p9hi⟩, _, _, rfl, ⟨p10, rfl, p10lo, p10hi⟩, _, _, rfl, ⟨p11, rfl, p11lo, p11hi⟩, _, _, rfl, ⟨p12, rfl, p12lo, p12hi⟩, _, _, rfl, ⟨p13, rfl, p13lo, p13hi⟩, _, _, rfl, ⟨p14, rfl⟩, _, _, rfl, ⟨p15, rfl⟩, rfl⟩ := hk
  have h := h p0 p1 p2 p3 p4 p5 p6 p7 p8 p9 p10 p11 p12 p13 p14 p15 p0lo p0hi p1lo p1hi p2lo p2hi p3k p4lo p4hi p5lo p5hi p6lo p6hi p7lo p7hi p8lo p8hi p9lo p9hi p10lo p10hi p11lo p11hi p12lo p12hi p13lo p13hi hp
  exact ⟨h.1, step_law22_FrameNests_7 p0 p1 p2 p3 p4 p5 p6 p7 p8 p9 p10 p11 p12 p13 p14 p15, h.2⟩)
theorem ok_law22_FrameNests_7 : LoopTrue Tryd.prog InvN LC_law22_FrameNests_7 := lp_law22_FrameNests_7 (fun xs => (num (xs.getD 0 undef) - num (xs.getD 1 undef)).toNat) (by
  intro p0 p1 p2 p3 p4 p5 p6 p7 p8 p9 p10 p11 p12 p13 p14 p15 _ _ _ _ _ _ _ _ _ _ _ _ _ _ _ _ _ _ _ _ _ _ _ _ _ _ _ hp
  have hp : (lenOK p3 && (decide (0 ≤ p1) && (decide (p1 ≤ p0) && (decide (p0 ≤ 70) && decide (LN p3 ≤ 1 + p1))))) = true := hp
  simp only [Bool.and_eq_true, decide_eq_true_eq] at hp
  obtain ⟨hL, h0, h1, h2, h3⟩ := hp
  have hq : ∀ a b c d e f g h i j k l m, pre_frame_Machine_Push [a, b, c, d, e, f, g, h, i, j, k, l, m, p3] = true := fun _ _ _ _ _ _ _ _ _ _ _ _ _ => hL
  rw [okBL_law22_FrameNests_7]
  refine ⟨bif_ok (fun _ => ?_) (fun _ => rfl), ?_⟩
  · rw [hq]
    rfl
  · obtain ⟨e, L', hx, hl⟩ := push_len p4 p5 p6 p7 p8 p9 p10 p11 p12 p13 p14 p15 p2 p3 hL
    have lb := lenOK.b hL
    have nx : p1 < p0 → okO pre_law22_FrameNests_7 (fun xs => (num (xs.getD 0 undef) - num (xs.getD 1 undef)).toNat) (p0 - p1).toNat [.int .i64 (-1), .int .i64 p0, .int .i64 (IntKind.i64.wrap (p1 + 1)), .int .u16 p2, L', .int .i64 p4, .int .i64 p5, .int .i64 p6, .int .i64 p7, .int .i64 p8, .int .i64 p9, .int .i64 p10, .int .u16 p11, .int .i64 p12, .int .i64 p13, .bool p14, .bool p15] := fun h => okO_next (by
      show (lenOK L' && (decide (0 ≤ IntKind.i64.wrap (p1 + 1)) && (decide (IntKind.i64.wrap (p1 + 1) ≤ p0) && (decide (p0 ≤ 70) && decide (LN L' ≤ 1 + IntKind.i64.wrap (p1 + 1)))))) = true
      rw [i64_in (by omega) (by omega)]
      simp only [Bool.and_eq_true, decide_eq_true_eq]
      exact ⟨lenOK.of (by omega) (by omega), by omega, by omega, h2, by omega⟩) (by
      show (p0 - IntKind.i64.wrap (p1 + 1)).toNat < _
      rw [i64_in (by omega) (by omega)]
      omega)
    unfold OUT_law22_FrameNests_7
    simp only [hq, hx, List.getD_cons_succ, List.getD_cons_zero, num_int, cond_true]
    refine okO_bif (fun h => ?_) (fun _ => okO_exit 1)
    have h : p1 < p0 := of_decide_eq_true h
    refine okO_bif (fun _ => okO_exit 0) (fun _ => okO_bif (fun _ => okO_bif (fun _ => okO_exit 0) (fun _ => nx h)) (fun _ => nx h)))
theorem nests_ends : ∀ (N : Nat) (p0 p1 p2 : Int) (p3 : Value) (p4 p5 p6 p7 p8 p9 p10 p11 p12 p13 : Int) (p14 p15 : Bool), (p0 - p1).toNat ≤ N → pre_law22_FrameNests_7 [.int .i64 p0, .int .i64 p1, .int .u16 p2, p3, .int .i64 p4, .int .i64 p5, .int .i64 p6, .int .i64 p7, .int .i64 p8, .int .i64 p9, .int .i64 p10, .int .u16 p11, .int .i64 p12, .int .i64 p13, .bool p14, .bool p15] = true →
    (∃ b, LF_law22_FrameNests_7 [.int .i64 p0, .int .i64 p1, .int .u16 p2, p3, .int .i64 p4, .int .i64 p5, .int .i64 p6, .int .i64 p7, .int .i64 p8, .int .i64 p9, .int .i64 p10, .int .u16 p11, .int .i64 p12, .int .i64 p13, .bool p14, .bool p15] = [.int .i64 0, .bool b]) ∨ ∃ L', LF_law22_FrameNests_7 [.int .i64 p0, .int .i64 p1, .int .u16 p2, p3, .int .i64 p4, .int .i64 p5, .int .i64 p6, .int .i64 p7, .int .i64 p8, .int .i64 p9, .int .i64 p10, .int .u16 p11, .int .i64 p12, .int .i64 p13, .bool p14, .bool p15] = [.int .i64 1, .int .i64 p0, .int .u16 p2, L'] ∧ lenOK L' = true
  | N, p0, p1, p2, p3, p4, p5, p6, p7, p8, p9, p10, p11, p12, p13, p14, p15, hN, hp => by
    have hp : (lenOK p3 && (decide (0 ≤ p1) && (decide (p1 ≤ p0) && (decide (p0 ≤ 70) && decide (LN p3 ≤ 1 + p1))))) = true := hp
    simp only [Bool.and_eq_true, decide_eq_true_eq] at hp
    obtain ⟨hL, h0, h1, h2, h3⟩ := hp
    have hq : ∀ a b c d e f g h i j k l m, pre_frame_Machine_Push [a, b, c, d, e, f, g, h, i, j, k, l, m, p3] = true := fun _ _ _ _ _ _ _ _ _ _ _ _ _ => hL
    obtain ⟨e, L', hx, hl⟩ := push_len p4 p5 p6 p7 p8 p9 p10 p11 p12 p13 p14 p15 p2 p3 hL
    have lb := lenOK.b hL
    rw [LF_law22_FrameNests_7_go]
    unfold OUT_law22_FrameNests_7
    simp only [hq, hx, List.getD_cons_succ, List.getD_cons_zero, num_int, cond_true, goOn_bif, goOn_next]
    by_cases h : p1 < p0
    · rw [decide_eq_true h, cond_true, i64_in (by omega) (by omega)]
      match N, hN with
      | 0, hN => omega
      | N + 1, hN =>
        have ih := nests_ends N p0 (p1 + 1) p2 L' p4 p5 p6 p7 p8 p9 p10 p11 p12 p13 p14 p15 (by omega) (by
          show (lenOK L' && (decide (0 ≤ p1 + 1) && (decide (p1 + 1 ≤ p0) && (decide (p0 ≤ 70) && decide (LN L' ≤ 1 + (p1 + 1)))))) = true
          simp only [Bool.and_eq_true, decide_eq_true_eq]
          exact ⟨lenOK.of (by omega) (by omega), by omega, by omega, h2, by omega⟩)
        generalize (!((e == 0) == decide (p1 < 64))) = c1
        generalize (e != 0) = c2
        generalize (e != 17) = c3
        cases c1
        · cases c2
          · exact ih
          · cases c3
            · exact ih
            · exact .inl ⟨false, rfl⟩
        · exact .inl ⟨false, rfl⟩
    · rw [decide_eq_false h, cond_false]
      exact .inr ⟨p3, rfl, hL⟩
noncomputable def L_law22_FrameNests : List Value → List Value := Classical.choose (veil fun vs => (evFM ⟨[C_frame_Machine_Depth, C_frame_Machine_Result], [LC_frame_Machine_Push, LC_law22_FrameNests_7]⟩ Tryd.prog [S_gen_Mod, S_gen_Op, S_law22_awake] 1000 5 (inL A_law22_FrameNests vs) R_law22_FrameNests).outL)
theorem L_law22_FrameNests_is (vs : List Value) : L_law22_FrameNests vs = (evFM ⟨[C_frame_Machine_Depth, C_frame_Machine_Result], [LC_frame_Machine_Push, LC_law22_FrameNests_7]⟩ Tryd.prog [S_gen_Mod, S_gen_Op, S_law22_awake] 1000 5 (inL A_law22_FrameNests vs) R_law22_FrameNests).outL := Classical.choose_spec (veil fun vs => (evFM ⟨[C_frame_Machine_Depth, C_frame_Machine_Result], [LC_frame_Machine_Push, LC_law22_FrameNests_7]⟩ Tryd.prog [S_gen_Mod, S_gen_Op, S_law22_awake] 1000 5 (inL A_law22_FrameNests vs) R_law22_FrameNests).outL) vs
noncomputable def S_law22_FrameNests : Sum := ⟨5, L_law22_FrameNests, A_law22_FrameNests, R_law22_FrameNests⟩
theorem env_law22_FrameNests : EnvOK Tryd.prog InvN ⟨[C_frame_Machine_Depth, C_frame_Machine_Result], [LC_frame_Machine_Push, LC_law22_FrameNests_7]⟩ ∧ AllOK Tryd.prog InvN [S_gen_Mod, S_gen_Op, S_law22_awake] := ⟨⟨(allC_cons ok_frame_Machine_Depth (allC_cons ok_frame_Machine_Result allC_nil)), (allL_cons ok_frame_Machine_Push (allL_cons ok_law22_FrameNests_7 allL_nil))⟩, (allOK_cons ok_gen_Mod.any (allOK_cons ok_gen_Op (allOK_cons ok_law22_awake allOK_nil)))⟩
theorem okG_law22_FrameNests (vs : List Value) : (evFM ⟨[C_frame_Machine_Depth, C_frame_Machine_Result], [LC_frame_Machine_Push, LC_law22_FrameNests_7]⟩ Tryd.prog [S_gen_Mod, S_gen_Op, S_law22_awake] 1000 5 (inL A_law22_FrameNests vs) R_law22_FrameNests).goodX R_law22_FrameNests = true := by kernel_rfl
theorem okB_law22_FrameNests (p0 : Int) (p1 : Int) (p2 : Int) (p3 : Int) (p4 : Int) (p5 : Int) (p6 : Int) (p7 : Int) (p8 : Int) (p9 : Int) (p10 : Int) (p11 : Int) : (evFM ⟨[C_frame_Machine_Depth, C_frame_Machine_Result], [LC_frame_Machine_Push, LC_law22_FrameNests_7]⟩ Tryd.prog [S_gen_Mod, S_gen_Op, S_law22_awake] 1000 5 (inL A_law22_FrameNests [.int .i64 p0, .int .i64 p1, .int .i64 p2, .int .i64 p3, .int .i64 p4, .int .i64 p5, .int .i64 p6, .int .i64 p7, .int .i64 p8, .int .i64 p9, .int .i64 p10, .int .i64 p11]) R_law22_FrameNests).ok =
    let x0 := F_law22_awake
    bif (!x0) then
      (true)
    else
      (let x1 := F_gen_Mod p0 70
      let x2 := F_gen_Op p1 p2 p3 p4 p5 p6 p7 p8 p9 p10 p11 true 3 0 0 3 3 false 255
      bif (pre_law22_FrameNests_7 [.int .i64 x1, .int .i64 0, .int .u16 255, (LSV 23 1 [.int .i64 2, .int .i64 0, .int .i64 0, .int .i64 0, .int .i64 0, .int .i64 0, .int .i64 0, .int .u16 0, .int .i64 0, .int .i64 0, .bool true, .bool false, .int .u16 0, .int .u16 0, .int .u16 0, .int .u16 0, .int .u16 0, .int .u16 0, .int .u16 0, .int .u16 0, .int .u16 0, .int .u16 0, .int .u16 0]), .int .i64 x2.1, .int .i64 x2.2.1, .int .i64 x2.2.2.1, .int .i64 x2.2.2.2.1, .int .i64 x2.2.2.2.2.1, .int .i64 x2.2.2.2.2.2.1, .int .i64 x2.2.2.2.2.2.2.1, .int .u16 x2.2.2.2.2.2.2.2.1, .int .i64 x2.2.2.2.2.2.2.2.2.1, .int .i64 x2.2.2.2.2.2.2.2.2.2.1, .bool x2.2.2.2.2.2.2.2.2.2.2.1, .bool x2.2.2.2.2.2.2.2.2.2.2.2]) then
        (let x3 := LF_law22_FrameNests_7 [.int .i64 x1, .int .i64 0, .int .u16 255, (LSV 23 1 [.int .i64 2, .int .i64 0, .int .i64 0, .int .i64 0, .int .i64 0, .int .i64 0, .int .i64 0, .int .u16 0, .int .i64 0, .int .i64 0, .bool true, .bool false, .int .u16 0, .int .u16 0, .int .u16 0, .int .u16 0, .int .u16 0, .int .u16 0, .int .u16 0, .int .u16 0, .int .u16 0, .int .u16 0, .int .u16 0]), .int .i64 x2.1, .int .i64 x2.2.1, .int .i64 x2.2.2.1, .int .i64 x2.2.2.2.1, .int .i64 x2.2.2.2.2.1, .int .i64 x2.2.2.2.2.2.1, .int .i64 x2.2.2.2.2.2.2.1, .int .u16 x2.2.2.2.2.2.2.2.1, .int .i64 x2.2.2.2.2.2.2.2.2.1, .int .i64 x2.2.2.2.2.2.2.2.2.2.1, .bool x2.2.2.2.2.2.2.2.2.2.2.1, .bool x2.2.2.2.2.2.2.2.2.2.2.2]
        bif (IXT x3 0) then
          (true)
        else
          (bif (pre_frame_Machine_Result [(PK [.int .u16 (num (x3.getD 2 undef)), (x3.getD 3 undef)])]) then
            (bif (pre_frame_Machine_Depth [(PK [.int .u16 (num (x3.getD 2 undef)), (x3.getD 3 undef)])]) then
              (true)
            else
              (false))
          else
            (false)))
      else
        (false)) := (okR_eq _).trans (by kernel_rfl)
theorem okA_law22_FrameNests (h : ∀ p0 p1 p2 p3 p4 p5 p6 p7 p8 p9 p10 p11 , IntKind.i64.min ≤ p0 → p0 ≤ IntKind.i64.max → IntKind.i64.min ≤ p1 → p1 ≤ IntKind.i64.max → IntKind.i64.min ≤ p2 → p2 ≤ IntKind.i64.max → IntKind.i64.min ≤ p3 → p3 ≤ IntKind.i64.max → IntKind.i64.min ≤ p4 → p4 ≤ IntKind.i64.max → IntKind.i64.min ≤ p5 → p5 ≤ IntKind.i64.max → IntKind.i64.min ≤ p6 → p6 ≤ IntKind.i64.max → IntKind.i64.min ≤ p7 → p7 ≤ IntKind.i64.max → IntKind.i64.min ≤ p8 → p8 ≤ IntKind.i64.max → IntKind.i64.min ≤ p9 → p9 ≤ IntKind.i64.max → IntKind.i64.min ≤ p10 → p10 ≤ IntKind.i64.max → IntKind.i64.min ≤ p11 → p11 ≤ IntKind.i64.max → (evFM ⟨[C_frame_Machine_Depth, C_frame_Machine_Result], [LC_frame_Machine_Push, LC_law22_FrameNests_7]⟩ Tryd.prog [S_gen_Mod, S_gen_Op, S_law22_awake] 1000 5 (inL A_law22_FrameNests [.int .i64 p0, .int .i64 p1, .int .i64 p2, .int .i64 p3, .int .i64 p4, .int .i64 p5, .int .i64 p6, .int .i64 p7, .int .i64 p8, .int .i64 p9, .int .i64 p10, .int .i64 p11]) R_law22_FrameNests).ok = true) : SumOK Tryd.prog InvN S_law22_FrameNests := sumOK_partL invN_stays env_law22_FrameNests.1 env_law22_FrameNests.2 1000 5 A_law22_FrameNests R_law22_FrameNests L_law22_FrameNests_is okG_law22_FrameNests (fun vs hk => by
  obtain ⟨_, _, rfl, ⟨p0, rfl, p0lo, p0hi⟩, _, _, rfl, ⟨p1, rfl, p1lo, p1hi⟩, _, _, rfl, ⟨p2, rfl, p2lo, p2hi⟩, _, _, rfl, ⟨p3, rfl, p3lo, p3hi⟩, _, _, rfl, ⟨p4, rfl, p4lo, p4hi⟩, _, _, rfl, ⟨p5, rfl, p5lo, p5hi⟩, _, _, rfl, ⟨p6, rfl, p6lo, p6hi⟩, _, _, rfl, ⟨p7, rfl, p7lo, p7hi⟩, _, _, rfl, ⟨p8, rfl, p8lo, p8hi⟩, _, _, rfl, ⟨p9, rfl, p9lo, p9hi⟩, _, _, rfl, ⟨p10, rfl, p10lo, p10hi⟩, _, _, rfl, ⟨p11, rfl, p11lo, p11hi⟩, rfl⟩ := hk
  exact h p0 p1 p2 p3 p4 p5 p6 p7 p8 p9 p10 p11 p0lo p0hi p1lo p1hi p2lo p2hi p3lo p3hi p4lo p4hi p5lo p5hi p6lo p6hi p7lo p7hi p8lo p8hi p9lo p9hi p10lo p10hi p11lo p11hi)
theorem nests_start (k : Int) (h0 : 0 ≤ k) (h1 : k ≤ 70) (cs : List Value) (a b c d e f g h i j x y : Value) : pre_law22_FrameNests_7 [.int .i64 k, .int .i64 0, .int .u16 255, LSV 23 1 cs, a, b, c, d, e, f, g, h, i, j, x, y] = true := by
  show (lenOK (LSV 23 1 cs) && (decide ((0 : Int) ≤ 0) && (decide (0 ≤ k) && (decide (k ≤ 70) && decide (LN (LSV 23 1 cs) ≤ 1 + 0))))) = true
  rw [lenOK.lit, LN_LSV, decide_eq_true h0, decide_eq_true h1]
  rfl
theorem ok_law22_FrameNests : SumOK Tryd.prog InvN S_law22_FrameNests := okA_law22_FrameNests (by
  intro p0 p1 p2 p3 p4 p5 p6 p7 p8 p9 p10 p11
  intros
  have hm := mod_bd p0 (n := 70) (by decide) (by decide)
  rw [okB_law22_FrameNests]
  dsimp only
  refine bif_ok (fun _ => rfl) (fun _ => ?_)
  generalize F_gen_Mod p0 70 = k at hm ⊢
  generalize F_gen_Op p1 p2 p3 p4 p5 p6 p7 p8 p9 p10 p11 true 3 0 0 3 3 false 255 = o
  rw [nests_start k hm.1 (by omega), cond_true]
  have hx := nests_ends _ k 0 255 (LSV 23 1 [.int .i64 2, .int .i64 0, .int .i64 0, .int .i64 0, .int .i64 0, .int .i64 0, .int .i64 0, .int .u16 0, .int .i64 0, .int .i64 0, .bool true, .bool false, .int .u16 0, .int .u16 0, .int .u16 0, .int .u16 0, .int .u16 0, .int .u16 0, .int .u16 0, .int .u16 0, .int .u16 0, .int .u16 0, .int .u16 0]) o.1 o.2.1 o.2.2.1 o.2.2.2.1 o.2.2.2.2.1 o.2.2.2.2.2.1 o.2.2.2.2.2.2.1 o.2.2.2.2.2.2.2.1 o.2.2.2.2.2.2.2.2.1 o.2.2.2.2.2.2.2.2.2.1 o.2.2.2.2.2.2.2.2.2.2.1 o.2.2.2.2.2.2.2.2.2.2.2 (Nat.le_refl _) (nests_start k hm.1 (by omega) _ _ _ _ _ _ _ _ _ _ _ _ _)
  rcases hx with ⟨b, hx⟩ | ⟨L', hx, hL⟩
  · rw [hx]
    rfl
  · rw [hx]
    have q1 : pre_frame_Machine_Result [PK [.int .u16 255, L']] = true := hL
    have q2 : ∀ vs, pre_frame_Machine_Depth vs = true := fun _ => rfl
    simp only [List.getD_cons_succ, List.getD_cons_zero, num_int, q1, q2, cond_true]
    exact bif_ok (fun _ => rfl) (fun _ => rfl))
noncomputable def F_law22_FrameNests (p0 : Int) (p1 : Int) (p2 : Int) (p3 : Int) (p4 : Int) (p5 : Int) (p6 : Int) (p7 : Int) (p8 : Int) (p9 : Int) (p10 : Int) (p11 : Int) : Bool := tru ((L_law22_FrameNests [.int .i64 p0, .int .i64 p1, .int .i64 p2, .int .i64 p3, .int .i64 p4, .int .i64 p5, .int .i64 p6, .int .i64 p7, .int .i64 p8, .int .i64 p9, .int .i64 p10, .int .i64 p11]).getD 0 undef)
theorem F_law22_FrameNests_eq (p0 : Int) (p1 : Int) (p2 : Int) (p3 : Int) (p4 : Int) (p5 : Int) (p6 : Int) (p7 : Int) (p8 : Int) (p9 : Int) (p10 : Int) (p11 : Int) : F_law22_FrameNests p0 p1 p2 p3 p4 p5 p6 p7 p8 p9 p10 p11 =
    let x0 := F_law22_awake
    bif (!x0) then
      (false)
    else
      (let x1 := F_gen_Mod p0 70
      let x2 := F_gen_Op p1 p2 p3 p4 p5 p6 p7 p8 p9 p10 p11 true 3 0 0 3 3 false 255
      bif (pre_law22_FrameNests_7 [.int .i64 x1, .int .i64 0, .int .u16 255, (LSV 23 1 [.int .i64 2, .int .i64 0, .int .i64 0, .int .i64 0, .int .i64 0, .int .i64 0, .int .i64 0, .int .u16 0, .int .i64 0, .int .i64 0, .bool true, .bool false, .int .u16 0, .int .u16 0, .int .u16 0, .int .u16 0, .int .u16 0, .int .u16 0, .int .u16 0, .int .u16 0, .int .u16 0, .int .u16 0, .int .u16 0]), .int .i64 x2.1, .int .i64 x2.2.1, .int .i64 x2.2.2.1, .int .i64 x2.2.2.2.1, .int .i64 x2.2.2.2.2.1, .int .i64 x2.2.2.2.2.2.1, .int .i64 x2.2.2.2.2.2.2.1, .int .u16 x2.2.2.2.2.2.2.2.1, .int .i64 x2.2.2.2.2.2.2.2.2.1, .int .i64 x2.2.2.2.2.2.2.2.2.2.1, .bool x2.2.2.2.2.2.2.2.2.2.2.1, .bool x2.2.2.2.2.2.2.2.2.2.2.2]) then
        (let x3 := LF_law22_FrameNests_7 [.int .i64 x1, .int .i64 0, .int .u16 255, (LSV 23 1 [.int .i64 2, .int .i64 0, .int .i64 0, .int .i64 0, .int .i64 0, .int .i64 0, .int .i64 0, .int .u16 0, .int .i64 0, .int .i64 0, .bool true, .bool false, .int .u16 0, .int .u16 0, .int .u16 0, .int .u16 0, .int .u16 0, .int .u16 0, .int .u16 0, .int .u16 0, .int .u16 0, .int .u16 0, .int .u16 0]), .int .i64 x2.1, .int .i64 x2.2.1, .int .i64 x2.2.2.1, .int .i64 x2.2.2.2.1, .int .i64 x2.2.2.2.2.1, .int .i64 x2.2.2.2.2.2.1, .int .i64 x2.2.2.2.2.2.2.1, .int .u16 x2.2.2.2.2.2.2.2.1, .int .i64 x2.2.2.2.2.2.2.2.2.1, .int .i64 x2.2.2.2.2.2.2.2.2.2.1, .bool x2.2.2.2.2.2.2.2.2.2.2.1, .bool x2.2.2.2.2.2.2.2.2.2.2.2]
        bif (IXT x3 0) then
          ((tru (x3.getD 1 undef)))
        else
          (bif (pre_frame_Machine_Result [(PK [.int .u16 (num (x3.getD 2 undef)), (x3.getD 3 undef)])]) then
            (bif (pre_frame_Machine_Depth [(PK [.int .u16 (num (x3.getD 2 undef)), (x3.getD 3 undef)])]) then
              (let x4 := F_frame_Machine_Depth (PK [.int .u16 (num (x3.getD 2 undef)), (x3.getD 3 undef)])
              bif (x4 == (if 64 < (num (x3.getD 1 undef)) then 64 else (num (x3.getD 1 undef)))) then
                (let x5 := F_frame_Machine_Result (PK [.int .u16 (num (x3.getD 2 undef)), (x3.getD 3 undef)])
                ((x5.2.2.2.2.2 == 0) == ((if 64 < (num (x3.getD 1 undef)) then 64 else (num (x3.getD 1 undef))) == 0)))
              else
                (false))
            else
              ((tru undef)))
          else
            ((tru undef))))
      else
        ((tru undef))) :=
  spellV (L := L_law22_FrameNests) (fun l => tru ((l).getD 0 undef)) (evFM ⟨[C_frame_Machine_Depth, C_frame_Machine_Result], [LC_frame_Machine_Push, LC_law22_FrameNests_7]⟩ Tryd.prog [S_gen_Mod, S_gen_Op, S_law22_awake] 1000 5 (inL A_law22_FrameNests [.int .i64 p0, .int .i64 p1, .int .i64 p2, .int .i64 p3, .int .i64 p4, .int .i64 p5, .int .i64 p6, .int .i64 p7, .int .i64 p8, .int .i64 p9, .int .i64 p10, .int .i64 p11]) R_law22_FrameNests) (L_law22_FrameNests_is _) (by kernel_rfl)
end Go.Proofs.YtdioaiepkhepaaaDoor
