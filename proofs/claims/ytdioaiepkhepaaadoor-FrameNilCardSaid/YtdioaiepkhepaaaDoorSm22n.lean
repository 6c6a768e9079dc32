/- Machines: the law FrameNil. Printed by a program (gen/Gen2.lean) but for the loops' proofs; what each function does is told by the evaluator, and the kernel checks it. No condition. -/
import Derived.Test.YtdioaiepkhepaaaDoorSm22b
import Derived.KernelRfl
import Derived.Shelf.Spec.TrailingZeros
import Derived.Laws.Bits64b
namespace Go.Proofs.YtdioaiepkhepaaaDoor
set_option maxRecDepth 100000
open Go.RowKit

/-! compositor/compositorlaw22.FrameNil -/
def A_law22_FrameNil : List PS := [.agg [.i .i64, .i .i64, .i .i64, .i .i64, .i .i64, .i .i64, .i .i64, .i .u16, .i .i64, .i .i64, .b, .b], .agg [.i .u16, .i .u16, .i .u16, .i .u16, .i .u16], .c (.i .u16)]
def R_law22_FrameNil : RS := .one (.c (.b))
noncomputable def L_law22_FrameNil : List Value → List Value := Classical.choose (veil fun vs => (evFM ⟨[C_frame_Machine_top, C_frame_Machine_paint, C_frame_Machine_Depth, C_frame_Machine_Acc, C_frame_Machine_Result], [LC_frame_Machine_Push, LC_frame_Machine_Draw]⟩ Tryd.prog [S_group_Result, S_frame_Machine_scaled, S_law22_awake] 1000 6 (inL A_law22_FrameNil vs) R_law22_FrameNil).outL)
theorem L_law22_FrameNil_is (vs : List Value) : L_law22_FrameNil vs = (evFM ⟨[C_frame_Machine_top, C_frame_Machine_paint, C_frame_Machine_Depth, C_frame_Machine_Acc, C_frame_Machine_Result], [LC_frame_Machine_Push, LC_frame_Machine_Draw]⟩ Tryd.prog [S_group_Result, S_frame_Machine_scaled, S_law22_awake] 1000 6 (inL A_law22_FrameNil vs) R_law22_FrameNil).outL := Classical.choose_spec (veil fun vs => (evFM ⟨[C_frame_Machine_top, C_frame_Machine_paint, C_frame_Machine_Depth, C_frame_Machine_Acc, C_frame_Machine_Result], [LC_frame_Machine_Push, LC_frame_Machine_Draw]⟩ Tryd.prog [S_group_Result, S_frame_Machine_scaled, S_law22_awake] 1000 6 (inL A_law22_FrameNil vs) R_law22_FrameNil).outL) vs
noncomputable def S_law22_FrameNil : Sum := ⟨6, L_law22_FrameNil, A_law22_FrameNil, R_law22_FrameNil⟩
theorem env_law22_FrameNil : EnvOK Tryd.prog InvN ⟨[C_frame_Machine_top, C_frame_Machine_paint, C_frame_Machine_Depth, C_frame_Machine_Acc, C_frame_Machine_Result], [LC_frame_Machine_Push, LC_frame_Machine_Draw]⟩ ∧ AllOK Tryd.prog InvN [S_group_Result, S_frame_Machine_scaled, S_law22_awake] := ⟨⟨(allC_cons ok_frame_Machine_top (allC_cons ok_frame_Machine_paint (allC_cons ok_frame_Machine_Depth (allC_cons ok_frame_Machine_Acc (allC_cons ok_frame_Machine_Result allC_nil))))), (allL_cons ok_frame_Machine_Push (allL_cons ok_frame_Machine_Draw allL_nil))⟩, (allOK_cons ok_group_Result (allOK_cons ok_frame_Machine_scaled (allOK_cons ok_law22_awake allOK_nil)))⟩
theorem okG_law22_FrameNil (vs : List Value) : (evFM ⟨[C_frame_Machine_top, C_frame_Machine_paint, C_frame_Machine_Depth, C_frame_Machine_Acc, C_frame_Machine_Result], [LC_frame_Machine_Push, LC_frame_Machine_Draw]⟩ Tryd.prog [S_group_Result, S_frame_Machine_scaled, S_law22_awake] 1000 6 (inL A_law22_FrameNil vs) R_law22_FrameNil).goodX R_law22_FrameNil = true := by kernel_rfl
theorem ok_law22_FrameNil : SumOK Tryd.prog InvN S_law22_FrameNil := sumOK_partL invN_stays env_law22_FrameNil.1 env_law22_FrameNil.2 1000 6 A_law22_FrameNil R_law22_FrameNil L_law22_FrameNil_is okG_law22_FrameNil (fun vs _ => ok_of_sure (t := evFM ⟨[C_frame_Machine_top, C_frame_Machine_paint, C_frame_Machine_Depth, C_frame_Machine_Acc, C_frame_Machine_Result], [LC_frame_Machine_Push, LC_frame_Machine_Draw]⟩ Tryd.prog [S_group_Result, S_frame_Machine_scaled, S_law22_awake] 1000 6 (inL A_law22_FrameNil vs) R_law22_FrameNil) (by kernel_rfl))
noncomputable def F_law22_FrameNil (p0 : Int) (p1 : Int) (p2 : Int) (p3 : Int) (p4 : Int) (p5 : Int) (p6 : Int) (p7 : Int) (p8 : Int) (p9 : Int) (p10 : Bool) (p11 : Bool) (p12 : Int) (p13 : Int) (p14 : Int) (p15 : Int) (p16 : Int) (p17 : Int) : Bool := tru ((L_law22_FrameNil [.int .i64 p0, .int .i64 p1, .int .i64 p2, .int .i64 p3, .int .i64 p4, .int .i64 p5, .int .i64 p6, .int .u16 p7, .int .i64 p8, .int .i64 p9, .bool p10, .bool p11, .int .u16 p12, .int .u16 p13, .int .u16 p14, .int .u16 p15, .int .u16 p16, .int .u16 p17]).getD 0 undef)
theorem F_law22_FrameNil_eq (p0 : Int) (p1 : Int) (p2 : Int) (p3 : Int) (p4 : Int) (p5 : Int) (p6 : Int) (p7 : Int) (p8 : Int) (p9 : Int) (p10 : Bool) (p11 : Bool) (p12 : Int) (p13 : Int) (p14 : Int) (p15 : Int) (p16 : Int) (p17 : Int) : F_law22_FrameNil p0 p1 p2 p3 p4 p5 p6 p7 p8 p9 p10 p11 p12 p13 p14 p15 p16 p17 =
    let x0 := F_law22_awake
    bif x0 then
      (true)
    else
      (false) :=
  spellV (L := L_law22_FrameNil) (fun l => tru ((l).getD 0 undef)) (evFM ⟨[C_frame_Machine_top, C_frame_Machine_paint, C_frame_Machine_Depth, C_frame_Machine_Acc, C_frame_Machine_Result], [LC_frame_Machine_Push, LC_frame_Machine_Draw]⟩ Tryd.prog [S_group_Result, S_frame_Machine_scaled, S_law22_awake] 1000 6 (inL A_law22_FrameNil [.int .i64 p0, .int .i64 p1, .int .i64 p2, .int .i64 p3, .int .i64 p4, .int .i64 p5, .int .i64 p6, .int .u16 p7, .int .i64 p8, .int .i64 p9, .bool p10, .bool p11, .int .u16 p12, .int .u16 p13, .int .u16 p14, .int .u16 p15, .int .u16 p16, .int .u16 p17]) R_law22_FrameNil) (L_law22_FrameNil_is _) (by kernel_rfl)
end Go.Proofs.YtdioaiepkhepaaaDoor
