/- Machines and the document's machines: contracts, told bodies. Printed by a program (gen/Gen2.lean) but for the loops' proofs; what each function does is told by the evaluator, and the kernel checks it. No condition. -/
import Derived.Test.YtdioaiepkhepaaaGreatDoorSm22a
import Derived.KernelRfl
import Derived.Shelf.Spec.TrailingZeros
import Derived.Laws.Bits64b
namespace Go.Proofs.YtdioaiepkhepaaaGreatDoor
set_option maxRecDepth 100000
open Go.RowKit
def A_slices_Clone : List PS := [.c (.l LV)]
def R_slices_Clone : RS := .one (.c (.l LV))
noncomputable def L_slices_Clone : List Value → List Value := Classical.choose (veil fun vs => (evFM ⟨[], []⟩ Tryz.prog [] 1000 39 (inL A_slices_Clone vs) R_slices_Clone).outL)
theorem L_slices_Clone_is (vs : List Value) : L_slices_Clone vs = (evFM ⟨[], []⟩ Tryz.prog [] 1000 39 (inL A_slices_Clone vs) R_slices_Clone).outL := Classical.choose_spec (veil _) vs
def pre_slices_Clone : List Value → Bool := fun vs => lenOK (vs.getD 0 undef)
noncomputable def C_slices_Clone : CSum := ⟨39, L_slices_Clone, pre_slices_Clone, A_slices_Clone, R_slices_Clone⟩
theorem env_slices_Clone : EnvOK Tryz.prog InvN ⟨[], []⟩ ∧ AllOK Tryz.prog InvN [] := ⟨⟨allC_nil, allL_nil⟩, allOK_nil⟩
theorem okG_slices_Clone (vs : List Value) : (evFM ⟨[], []⟩ Tryz.prog [] 1000 39 (inL A_slices_Clone vs) R_slices_Clone).goodX R_slices_Clone = true := by kernel_rfl
theorem okB_slices_Clone (p0 : Value) : (evFM ⟨[], []⟩ Tryz.prog [] 1000 39 (inL A_slices_Clone [p0]) R_slices_Clone).ok =
 bif (INB p0 0) then
 (bif (RO 112 (CT NILV p0)) then
 (true)
 else
 (false))
 else
 (false) := (okR_eq _).trans (by kernel_rfl)
theorem okA_slices_Clone (h : ∀ p0 , inKind (.l LV) p0 → pre_slices_Clone [p0] = true → (evFM ⟨[], []⟩ Tryz.prog [] 1000 39 (inL A_slices_Clone [p0]) R_slices_Clone).ok = true) : CSumOK Tryz.prog InvN C_slices_Clone := csumOK_partV invN_stays env_slices_Clone.1 env_slices_Clone.2 1000 39 A_slices_Clone R_slices_Clone L_slices_Clone_is pre_slices_Clone okG_slices_Clone (fun vs hk hp => by
 obtain ⟨p0, _, rfl, p0k, rfl⟩ := hk
 exact h p0 p0k hp)
theorem ok_slices_Clone : CSumOK Tryz.prog InvN C_slices_Clone := okA_slices_Clone fun p0 _ hp => by
 have hp : lenOK p0 = true := hp
 rw [okB_slices_Clone]
 repeat' (first | with_reducible rfl | refine bif_ok (fun h => ?_) (fun h => ?_))
 all_goals first | exact bool_no (lenOK.clone hp) h | exact bool_no (lenOK.first hp) h
noncomputable def F_slices_Clone (p0 : Value) : Value := (L_slices_Clone [p0]).getD 0 undef
theorem F_slices_Clone_eq (p0 : Value) : F_slices_Clone p0 =
 bif (INB p0 0) then
 (bif (RO 112 (CT NILV p0)) then
 ((CT NILV p0))
 else
 (undef))
 else
 (undef) :=
 spellV (L := L_slices_Clone) (fun l => (l).getD 0 undef) (evFM ⟨[], []⟩ Tryz.prog [] 1000 39 (inL A_slices_Clone [p0]) R_slices_Clone) (L_slices_Clone_is _) (by kernel_rfl)
def head_fM_Pop : Shp := ⟨[.p (.c (.p 0 0)), .p (.c (.h (.i .u16)))], [(0, ⟨[.h (.i .u16), .ar 1 LV 61], 64, true, none⟩), (1, ⟨[], 61, true, some LV⟩)]⟩
def outs_fM_Pop : List (Xt × Shp × Nat) := [(.ret, ⟨[.tup [.agg [.h (.i .u16), .h (.i .u16), .h (.i .u16), .h (.i .u16), .h (.i .u16)], .c (.h (.i .i64))], .p (.c (.p 0 0))], [(0, ⟨[.h (.i .u16), .ar 1 LV 61], 64, true, none⟩), (1, ⟨[], 61, true, some LV⟩)]⟩, 2)]
def LC0_fM_Pop : LoopC := ⟨24, 99999, fun _ => [], fun _ => true, 2, head_fM_Pop, outs_fM_Pop⟩
noncomputable def LF_fM_Pop : List Value → List Value := Classical.choose (veil fun vs => (evB ⟨[C_fM_top, C_fM_paint, C_fM_Depth], []⟩ Tryz.prog [S_group_Result, S_fM_scaled] 1000 LC0_fM_Pop vs).outL)
theorem LF_fM_Pop_is (vs : List Value) : LF_fM_Pop vs = (evB ⟨[C_fM_top, C_fM_paint, C_fM_Depth], []⟩ Tryz.prog [S_group_Result, S_fM_scaled] 1000 LC0_fM_Pop vs).outL := Classical.choose_spec (veil _) vs
def pre_fM_Pop : List Value → Bool := fun vs => lenOK (vs.getD 2 undef)
noncomputable def LC_fM_Pop : LoopC := ⟨24, 99999, LF_fM_Pop, pre_fM_Pop, 2, head_fM_Pop, outs_fM_Pop⟩
noncomputable def OUT_fM_Pop (p0 p1 : Int) (p2 : Value) : List Value :=
 bif (pre_fM_Depth [(PK [.int .u16 p1, p2])]) then
 (let x0 := F_fM_Depth (PK [.int .u16 p1, p2])
 bif (x0 == 0) then
 ([.int .i64 0, .int .u16 0, .int .u16 0, .int .u16 0, .int .u16 0, .int .u16 0, .int .i64 18, .int .u16 p1, p2])
 else
 (bif (pre_fM_top [(PK [.int .u16 p1, p2])]) then
 (let x1 := F_fM_top (PK [.int .u16 p1, p2])
 bif (x1.2.2.2.2.1 != 0) then
 (bif (decide (p0 > p1)) then
 ([.int .i64 0, .int .u16 0, .int .u16 0, .int .u16 0, .int .u16 0, .int .u16 0, .int .i64 20, .int .u16 p1, p2])
 else
 (bif (decide (x1.2.2.2.2.2.2.2.1 > p1)) then
 ([.int .i64 0, .int .u16 0, .int .u16 0, .int .u16 0, .int .u16 0, .int .u16 0, .int .i64 20, .int .u16 p1, p2])
 else
 (bif (TKB p2 (IntKind.i64.wrap ((LN p2) - 1))) then
 (let x2 := F_group_Result x1.2.2.2.2.2.2.2.2.2.2.2.2.1 x1.2.2.2.2.2.2.2.2.2.2.2.2.2.1 x1.2.2.2.2.2.2.2.2.2.2.2.2.2.2.1 x1.2.2.2.2.2.2.2.2.2.2.2.2.2.2.2.1 x1.2.2.2.2.2.2.2.2.2.2.2.2.2.2.2.2.1 x1.2.2.2.2.2.2.2.2.2.2.2.2.2.2.2.2.2.1 x1.2.2.2.2.2.2.2.2.2.2.2.2.2.2.2.2.2.2.1 x1.2.2.2.2.2.2.2.2.2.2.2.2.2.2.2.2.2.2.2.1 x1.2.2.2.2.2.2.2.2.2.2.2.2.2.2.2.2.2.2.2.2.1 x1.2.2.2.2.2.2.2.2.2.2.2.2.2.2.2.2.2.2.2.2.2.1 x1.2.2.2.2.2.2.2.2.2.2.2.2.2.2.2.2.2.2.2.2.2.2 p1
 bif x2.2.2.2.2.2 then
 (let x3 := F_fM_scaled (PK [.int .u16 p1, p2]) x1.1 x1.2.1 x1.2.2.1 x1.2.2.2.1 x1.2.2.2.2.1 x1.2.2.2.2.2.1 x1.2.2.2.2.2.2.1 x1.2.2.2.2.2.2.2.1 x1.2.2.2.2.2.2.2.2.1 x1.2.2.2.2.2.2.2.2.2.1 x1.2.2.2.2.2.2.2.2.2.2.1 x1.2.2.2.2.2.2.2.2.2.2.2.1 x2.1 x2.2.1 x2.2.2.1 x2.2.2.2.1 x2.2.2.2.2.1 p0
 bif (!x3.2.2.2.2.2) then
 ([.int .i64 0, .int .u16 0, .int .u16 0, .int .u16 0, .int .u16 0, .int .u16 0, .int .i64 16, .int .u16 p1, p2])
 else
 (bif (pre_fM_paint [(PK [.int .u16 p1, p2]), (TK p2 (IntKind.i64.wrap ((LN p2) - 1))), .int .i64 x1.1, .int .i64 x1.2.1, .int .i64 x1.2.2.1, .int .i64 x1.2.2.2.1, .int .i64 x1.2.2.2.2.1, .int .i64 x1.2.2.2.2.2.1, .int .i64 x1.2.2.2.2.2.2.1, .int .u16 x1.2.2.2.2.2.2.2.1, .int .i64 x1.2.2.2.2.2.2.2.2.1, .int .i64 x1.2.2.2.2.2.2.2.2.2.1, .bool x1.2.2.2.2.2.2.2.2.2.2.1, .bool x1.2.2.2.2.2.2.2.2.2.2.2.1, .int .u16 x3.1, .int .u16 x3.2.1, .int .u16 x3.2.2.1, .int .u16 x3.2.2.2.1, .int .u16 x3.2.2.2.2.1]) then
 (let x4 := F_fM_paint (PK [.int .u16 p1, p2]) (TK p2 (IntKind.i64.wrap ((LN p2) - 1))) x1.1 x1.2.1 x1.2.2.1 x1.2.2.2.1 x1.2.2.2.2.1 x1.2.2.2.2.2.1 x1.2.2.2.2.2.2.1 x1.2.2.2.2.2.2.2.1 x1.2.2.2.2.2.2.2.2.1 x1.2.2.2.2.2.2.2.2.2.1 x1.2.2.2.2.2.2.2.2.2.2.1 x1.2.2.2.2.2.2.2.2.2.2.2.1 x3.1 x3.2.1 x3.2.2.1 x3.2.2.2.1 x3.2.2.2.2.1
 bif (!x4.2.2.2.2.2.2.2.2.2.2.2.2.2.2.2.2.2.2.2.2.2.2.2) then
 ([.int .i64 0, .int .u16 0, .int .u16 0, .int .u16 0, .int .u16 0, .int .u16 0, .int .i64 16, .int .u16 p1, p2])
 else
 (bif (INB (TK p2 (IntKind.i64.wrap ((LN p2) - 1))) (IntKind.i64.wrap ((LN (TK p2 (IntKind.i64.wrap ((LN p2) - 1)))) - 1))) then
 ([.int .i64 0, .int .u16 x3.1, .int .u16 x3.2.1, .int .u16 x3.2.2.1, .int .u16 x3.2.2.2.1, .int .u16 x3.2.2.2.2.1, .int .i64 0, .int .u16 p1, (TK (ST 0 p2 (IntKind.i64.wrap ((LN (TK p2 (IntKind.i64.wrap ((LN p2) - 1)))) - 1)) [.int .i64 x4.1, .int .i64 x4.2.1, .int .i64 x4.2.2.1, .int .i64 x4.2.2.2.1, .int .i64 x4.2.2.2.2.1, .int .i64 x4.2.2.2.2.2.1, .int .i64 x4.2.2.2.2.2.2.1, .int .u16 x4.2.2.2.2.2.2.2.1, .int .i64 x4.2.2.2.2.2.2.2.2.1, .int .i64 x4.2.2.2.2.2.2.2.2.2.1, .bool x4.2.2.2.2.2.2.2.2.2.2.1, .bool x4.2.2.2.2.2.2.2.2.2.2.2.1, .int .u16 x4.2.2.2.2.2.2.2.2.2.2.2.2.1, .int .u16 x4.2.2.2.2.2.2.2.2.2.2.2.2.2.1, .int .u16 x4.2.2.2.2.2.2.2.2.2.2.2.2.2.2.1, .int .u16 x4.2.2.2.2.2.2.2.2.2.2.2.2.2.2.2.1, .int .u16 x4.2.2.2.2.2.2.2.2.2.2.2.2.2.2.2.2.1, .int .u16 x4.2.2.2.2.2.2.2.2.2.2.2.2.2.2.2.2.2.1, .int .u16 x4.2.2.2.2.2.2.2.2.2.2.2.2.2.2.2.2.2.2.1, .int .u16 x4.2.2.2.2.2.2.2.2.2.2.2.2.2.2.2.2.2.2.2.1, .int .u16 x4.2.2.2.2.2.2.2.2.2.2.2.2.2.2.2.2.2.2.2.2.1, .int .u16 x4.2.2.2.2.2.2.2.2.2.2.2.2.2.2.2.2.2.2.2.2.2.1, .int .u16 x4.2.2.2.2.2.2.2.2.2.2.2.2.2.2.2.2.2.2.2.2.2.2.1]) (IntKind.i64.wrap ((LN p2) - 1)))])
 else
 ([])))
 else
 ([])))
 else
 (bif (!x2.2.2.2.2.2) then
 ([.int .i64 0, .int .u16 0, .int .u16 0, .int .u16 0, .int .u16 0, .int .u16 0, .int .i64 16, .int .u16 p1, p2])
 else
 (bif (pre_fM_paint [(PK [.int .u16 p1, p2]), (TK p2 (IntKind.i64.wrap ((LN p2) - 1))), .int .i64 x1.1, .int .i64 x1.2.1, .int .i64 x1.2.2.1, .int .i64 x1.2.2.2.1, .int .i64 x1.2.2.2.2.1, .int .i64 x1.2.2.2.2.2.1, .int .i64 x1.2.2.2.2.2.2.1, .int .u16 x1.2.2.2.2.2.2.2.1, .int .i64 x1.2.2.2.2.2.2.2.2.1, .int .i64 x1.2.2.2.2.2.2.2.2.2.1, .bool x1.2.2.2.2.2.2.2.2.2.2.1, .bool x1.2.2.2.2.2.2.2.2.2.2.2.1, .int .u16 x2.1, .int .u16 x2.2.1, .int .u16 x2.2.2.1, .int .u16 x2.2.2.2.1, .int .u16 x2.2.2.2.2.1]) then
 (let x5 := F_fM_paint (PK [.int .u16 p1, p2]) (TK p2 (IntKind.i64.wrap ((LN p2) - 1))) x1.1 x1.2.1 x1.2.2.1 x1.2.2.2.1 x1.2.2.2.2.1 x1.2.2.2.2.2.1 x1.2.2.2.2.2.2.1 x1.2.2.2.2.2.2.2.1 x1.2.2.2.2.2.2.2.2.1 x1.2.2.2.2.2.2.2.2.2.1 x1.2.2.2.2.2.2.2.2.2.2.1 x1.2.2.2.2.2.2.2.2.2.2.2.1 x2.1 x2.2.1 x2.2.2.1 x2.2.2.2.1 x2.2.2.2.2.1
 bif (!x5.2.2.2.2.2.2.2.2.2.2.2.2.2.2.2.2.2.2.2.2.2.2.2) then
 ([.int .i64 0, .int .u16 0, .int .u16 0, .int .u16 0, .int .u16 0, .int .u16 0, .int .i64 16, .int .u16 p1, p2])
 else
 (bif (INB (TK p2 (IntKind.i64.wrap ((LN p2) - 1))) (IntKind.i64.wrap ((LN (TK p2 (IntKind.i64.wrap ((LN p2) - 1)))) - 1))) then
 ([.int .i64 0, .int .u16 x2.1, .int .u16 x2.2.1, .int .u16 x2.2.2.1, .int .u16 x2.2.2.2.1, .int .u16 x2.2.2.2.2.1, .int .i64 0, .int .u16 p1, (TK (ST 0 p2 (IntKind.i64.wrap ((LN (TK p2 (IntKind.i64.wrap ((LN p2) - 1)))) - 1)) [.int .i64 x5.1, .int .i64 x5.2.1, .int .i64 x5.2.2.1, .int .i64 x5.2.2.2.1, .int .i64 x5.2.2.2.2.1, .int .i64 x5.2.2.2.2.2.1, .int .i64 x5.2.2.2.2.2.2.1, .int .u16 x5.2.2.2.2.2.2.2.1, .int .i64 x5.2.2.2.2.2.2.2.2.1, .int .i64 x5.2.2.2.2.2.2.2.2.2.1, .bool x5.2.2.2.2.2.2.2.2.2.2.1, .bool x5.2.2.2.2.2.2.2.2.2.2.2.1, .int .u16 x5.2.2.2.2.2.2.2.2.2.2.2.2.1, .int .u16 x5.2.2.2.2.2.2.2.2.2.2.2.2.2.1, .int .u16 x5.2.2.2.2.2.2.2.2.2.2.2.2.2.2.1, .int .u16 x5.2.2.2.2.2.2.2.2.2.2.2.2.2.2.2.1, .int .u16 x5.2.2.2.2.2.2.2.2.2.2.2.2.2.2.2.2.1, .int .u16 x5.2.2.2.2.2.2.2.2.2.2.2.2.2.2.2.2.2.1, .int .u16 x5.2.2.2.2.2.2.2.2.2.2.2.2.2.2.2.2.2.2.1, .int .u16 x5.2.2.2.2.2.2.2.2.2.2.2.2.2.2.2.2.2.2.2.1, .int .u16 x5.2.2.2.2.2.2.2.2.2.2.2.2.2.2.2.2.2.2.2.2.1, .int .u16 x5.2.2.2.2.2.2.2.2.2.2.2.2.2.2.2.2.2.2.2.2.2.1, .int .u16 x5.2.2.2.2.2.2.2.2.2.2.2.2.2.2.2.2.2.2.2.2.2.2.1]) (IntKind.i64.wrap ((LN p2) - 1)))])
 else
 ([])))
 else
 ([]))))
 else
 ([]))))
 else
 (bif (decide (x1.2.2.2.2.2.2.2.1 > p1)) then
 ([.int .i64 0, .int .u16 0, .int .u16 0, .int .u16 0, .int .u16 0, .int .u16 0, .int .i64 20, .int .u16 p1, p2])
 else
 (bif (TKB p2 (IntKind.i64.wrap ((LN p2) - 1))) then
 (let x6 := F_group_Result x1.2.2.2.2.2.2.2.2.2.2.2.2.1 x1.2.2.2.2.2.2.2.2.2.2.2.2.2.1 x1.2.2.2.2.2.2.2.2.2.2.2.2.2.2.1 x1.2.2.2.2.2.2.2.2.2.2.2.2.2.2.2.1 x1.2.2.2.2.2.2.2.2.2.2.2.2.2.2.2.2.1 x1.2.2.2.2.2.2.2.2.2.2.2.2.2.2.2.2.2.1 x1.2.2.2.2.2.2.2.2.2.2.2.2.2.2.2.2.2.2.1 x1.2.2.2.2.2.2.2.2.2.2.2.2.2.2.2.2.2.2.2.1 x1.2.2.2.2.2.2.2.2.2.2.2.2.2.2.2.2.2.2.2.2.1 x1.2.2.2.2.2.2.2.2.2.2.2.2.2.2.2.2.2.2.2.2.2.1 x1.2.2.2.2.2.2.2.2.2.2.2.2.2.2.2.2.2.2.2.2.2.2 p1
 bif x6.2.2.2.2.2 then
 (let x7 := F_fM_scaled (PK [.int .u16 p1, p2]) x1.1 x1.2.1 x1.2.2.1 x1.2.2.2.1 x1.2.2.2.2.1 x1.2.2.2.2.2.1 x1.2.2.2.2.2.2.1 x1.2.2.2.2.2.2.2.1 x1.2.2.2.2.2.2.2.2.1 x1.2.2.2.2.2.2.2.2.2.1 x1.2.2.2.2.2.2.2.2.2.2.1 x1.2.2.2.2.2.2.2.2.2.2.2.1 x6.1 x6.2.1 x6.2.2.1 x6.2.2.2.1 x6.2.2.2.2.1 p0
 bif (!x7.2.2.2.2.2) then
 ([.int .i64 0, .int .u16 0, .int .u16 0, .int .u16 0, .int .u16 0, .int .u16 0, .int .i64 16, .int .u16 p1, p2])
 else
 (bif (pre_fM_paint [(PK [.int .u16 p1, p2]), (TK p2 (IntKind.i64.wrap ((LN p2) - 1))), .int .i64 x1.1, .int .i64 x1.2.1, .int .i64 x1.2.2.1, .int .i64 x1.2.2.2.1, .int .i64 x1.2.2.2.2.1, .int .i64 x1.2.2.2.2.2.1, .int .i64 x1.2.2.2.2.2.2.1, .int .u16 x1.2.2.2.2.2.2.2.1, .int .i64 x1.2.2.2.2.2.2.2.2.1, .int .i64 x1.2.2.2.2.2.2.2.2.2.1, .bool x1.2.2.2.2.2.2.2.2.2.2.1, .bool x1.2.2.2.2.2.2.2.2.2.2.2.1, .int .u16 x7.1, .int .u16 x7.2.1, .int .u16 x7.2.2.1, .int .u16 x7.2.2.2.1, .int .u16 x7.2.2.2.2.1]) then
 (let x8 := F_fM_paint (PK [.int .u16 p1, p2]) (TK p2 (IntKind.i64.wrap ((LN p2) - 1))) x1.1 x1.2.1 x1.2.2.1 x1.2.2.2.1 x1.2.2.2.2.1 x1.2.2.2.2.2.1 x1.2.2.2.2.2.2.1 x1.2.2.2.2.2.2.2.1 x1.2.2.2.2.2.2.2.2.1 x1.2.2.2.2.2.2.2.2.2.1 x1.2.2.2.2.2.2.2.2.2.2.1 x1.2.2.2.2.2.2.2.2.2.2.2.1 x7.1 x7.2.1 x7.2.2.1 x7.2.2.2.1 x7.2.2.2.2.1
 bif (!x8.2.2.2.2.2.2.2.2.2.2.2.2.2.2.2.2.2.2.2.2.2.2.2) then
 ([.int .i64 0, .int .u16 0, .int .u16 0, .int .u16 0, .int .u16 0, .int .u16 0, .int .i64 16, .int .u16 p1, p2])
 else
 (bif (INB (TK p2 (IntKind.i64.wrap ((LN p2) - 1))) (IntKind.i64.wrap ((LN (TK p2 (IntKind.i64.wrap ((LN p2) - 1)))) - 1))) then
 ([.int .i64 0, .int .u16 x7.1, .int .u16 x7.2.1, .int .u16 x7.2.2.1, .int .u16 x7.2.2.2.1, .int .u16 x7.2.2.2.2.1, .int .i64 0, .int .u16 p1, (TK (ST 0 p2 (IntKind.i64.wrap ((LN (TK p2 (IntKind.i64.wrap ((LN p2) - 1)))) - 1)) [.int .i64 x8.1, .int .i64 x8.2.1, .int .i64 x8.2.2.1, .int .i64 x8.2.2.2.1, .int .i64 x8.2.2.2.2.1, .int .i64 x8.2.2.2.2.2.1, .int .i64 x8.2.2.2.2.2.2.1, .int .u16 x8.2.2.2.2.2.2.2.1, .int .i64 x8.2.2.2.2.2.2.2.2.1, .int .i64 x8.2.2.2.2.2.2.2.2.2.1, .bool x8.2.2.2.2.2.2.2.2.2.2.1, .bool x8.2.2.2.2.2.2.2.2.2.2.2.1, .int .u16 x8.2.2.2.2.2.2.2.2.2.2.2.2.1, .int .u16 x8.2.2.2.2.2.2.2.2.2.2.2.2.2.1, .int .u16 x8.2.2.2.2.2.2.2.2.2.2.2.2.2.2.1, .int .u16 x8.2.2.2.2.2.2.2.2.2.2.2.2.2.2.2.1, .int .u16 x8.2.2.2.2.2.2.2.2.2.2.2.2.2.2.2.2.1, .int .u16 x8.2.2.2.2.2.2.2.2.2.2.2.2.2.2.2.2.2.1, .int .u16 x8.2.2.2.2.2.2.2.2.2.2.2.2.2.2.2.2.2.2.1, .int .u16 x8.2.2.2.2.2.2.2.2.2.2.2.2.2.2.2.2.2.2.2.1, .int .u16 x8.2.2.2.2.2.2.2.2.2.2.2.2.2.2.2.2.2.2.2.2.1, .int .u16 x8.2.2.2.2.2.2.2.2.2.2.2.2.2.2.2.2.2.2.2.2.2.1, .int .u16 x8.2.2.2.2.2.2.2.2.2.2.2.2.2.2.2.2.2.2.2.2.2.2.1]) (IntKind.i64.wrap ((LN p2) - 1)))])
 else
 ([])))
 else
 ([])))
 else
 (bif (!x6.2.2.2.2.2) then
 ([.int .i64 0, .int .u16 0, .int .u16 0, .int .u16 0, .int .u16 0, .int .u16 0, .int .i64 16, .int .u16 p1, p2])
 else
 (bif (pre_fM_paint [(PK [.int .u16 p1, p2]), (TK p2 (IntKind.i64.wrap ((LN p2) - 1))), .int .i64 x1.1, .int .i64 x1.2.1, .int .i64 x1.2.2.1, .int .i64 x1.2.2.2.1, .int .i64 x1.2.2.2.2.1, .int .i64 x1.2.2.2.2.2.1, .int .i64 x1.2.2.2.2.2.2.1, .int .u16 x1.2.2.2.2.2.2.2.1, .int .i64 x1.2.2.2.2.2.2.2.2.1, .int .i64 x1.2.2.2.2.2.2.2.2.2.1, .bool x1.2.2.2.2.2.2.2.2.2.2.1, .bool x1.2.2.2.2.2.2.2.2.2.2.2.1, .int .u16 x6.1, .int .u16 x6.2.1, .int .u16 x6.2.2.1, .int .u16 x6.2.2.2.1, .int .u16 x6.2.2.2.2.1]) then
 (let x9 := F_fM_paint (PK [.int .u16 p1, p2]) (TK p2 (IntKind.i64.wrap ((LN p2) - 1))) x1.1 x1.2.1 x1.2.2.1 x1.2.2.2.1 x1.2.2.2.2.1 x1.2.2.2.2.2.1 x1.2.2.2.2.2.2.1 x1.2.2.2.2.2.2.2.1 x1.2.2.2.2.2.2.2.2.1 x1.2.2.2.2.2.2.2.2.2.1 x1.2.2.2.2.2.2.2.2.2.2.1 x1.2.2.2.2.2.2.2.2.2.2.2.1 x6.1 x6.2.1 x6.2.2.1 x6.2.2.2.1 x6.2.2.2.2.1
 bif (!x9.2.2.2.2.2.2.2.2.2.2.2.2.2.2.2.2.2.2.2.2.2.2.2) then
 ([.int .i64 0, .int .u16 0, .int .u16 0, .int .u16 0, .int .u16 0, .int .u16 0, .int .i64 16, .int .u16 p1, p2])
 else
 (bif (INB (TK p2 (IntKind.i64.wrap ((LN p2) - 1))) (IntKind.i64.wrap ((LN (TK p2 (IntKind.i64.wrap ((LN p2) - 1)))) - 1))) then
 ([.int .i64 0, .int .u16 x6.1, .int .u16 x6.2.1, .int .u16 x6.2.2.1, .int .u16 x6.2.2.2.1, .int .u16 x6.2.2.2.2.1, .int .i64 0, .int .u16 p1, (TK (ST 0 p2 (IntKind.i64.wrap ((LN (TK p2 (IntKind.i64.wrap ((LN p2) - 1)))) - 1)) [.int .i64 x9.1, .int .i64 x9.2.1, .int .i64 x9.2.2.1, .int .i64 x9.2.2.2.1, .int .i64 x9.2.2.2.2.1, .int .i64 x9.2.2.2.2.2.1, .int .i64 x9.2.2.2.2.2.2.1, .int .u16 x9.2.2.2.2.2.2.2.1, .int .i64 x9.2.2.2.2.2.2.2.2.1, .int .i64 x9.2.2.2.2.2.2.2.2.2.1, .bool x9.2.2.2.2.2.2.2.2.2.2.1, .bool x9.2.2.2.2.2.2.2.2.2.2.2.1, .int .u16 x9.2.2.2.2.2.2.2.2.2.2.2.2.1, .int .u16 x9.2.2.2.2.2.2.2.2.2.2.2.2.2.1, .int .u16 x9.2.2.2.2.2.2.2.2.2.2.2.2.2.2.1, .int .u16 x9.2.2.2.2.2.2.2.2.2.2.2.2.2.2.2.1, .int .u16 x9.2.2.2.2.2.2.2.2.2.2.2.2.2.2.2.2.1, .int .u16 x9.2.2.2.2.2.2.2.2.2.2.2.2.2.2.2.2.2.1, .int .u16 x9.2.2.2.2.2.2.2.2.2.2.2.2.2.2.2.2.2.2.1, .int .u16 x9.2.2.2.2.2.2.2.2.2.2.2.2.2.2.2.2.2.2.2.1, .int .u16 x9.2.2.2.2.2.2.2.2.2.2.2.2.2.2.2.2.2.2.2.2.1, .int .u16 x9.2.2.2.2.2.2.2.2.2.2.2.2.2.2.2.2.2.2.2.2.2.1, .int .u16 x9.2.2.2.2.2.2.2.2.2.2.2.2.2.2.2.2.2.2.2.2.2.2.1]) (IntKind.i64.wrap ((LN p2) - 1)))])
 else
 ([])))
 else
 ([]))))
 else
 ([]))))
 else
 ([])))
 else
 ([])
theorem LF_fM_Pop_eq (p0 p1 : Int) (p2 : Value) : LF_fM_Pop [.int .u16 p0, .int .u16 p1, p2] = OUT_fM_Pop p0 p1 p2 := (LF_fM_Pop_is _).trans ((fold_eq (fun l => l) _).trans (by kernel_rfl))
theorem okB_fM_Pop (p0 p1 : Int) (p2 : Value) : (evB ⟨[C_fM_top, C_fM_paint, C_fM_Depth], []⟩ Tryz.prog [S_group_Result, S_fM_scaled] 1000 LC0_fM_Pop [.int .u16 p0, .int .u16 p1, p2]).ok =
 bif (pre_fM_Depth [(PK [.int .u16 p1, p2])]) then
 (let x0 := F_fM_Depth (PK [.int .u16 p1, p2])
 bif (x0 == 0) then
 (true)
 else
 (bif (pre_fM_top [(PK [.int .u16 p1, p2])]) then
 (let x1 := F_fM_top (PK [.int .u16 p1, p2])
 bif (x1.2.2.2.2.1 != 0) then
 (bif (decide (p0 > p1)) then
 (true)
 else
 (bif (decide (x1.2.2.2.2.2.2.2.1 > p1)) then
 (true)
 else
 (bif (TKB p2 (IntKind.i64.wrap ((LN p2) - 1))) then
 (let x2 := F_group_Result x1.2.2.2.2.2.2.2.2.2.2.2.2.1 x1.2.2.2.2.2.2.2.2.2.2.2.2.2.1 x1.2.2.2.2.2.2.2.2.2.2.2.2.2.2.1 x1.2.2.2.2.2.2.2.2.2.2.2.2.2.2.2.1 x1.2.2.2.2.2.2.2.2.2.2.2.2.2.2.2.2.1 x1.2.2.2.2.2.2.2.2.2.2.2.2.2.2.2.2.2.1 x1.2.2.2.2.2.2.2.2.2.2.2.2.2.2.2.2.2.2.1 x1.2.2.2.2.2.2.2.2.2.2.2.2.2.2.2.2.2.2.2.1 x1.2.2.2.2.2.2.2.2.2.2.2.2.2.2.2.2.2.2.2.2.1 x1.2.2.2.2.2.2.2.2.2.2.2.2.2.2.2.2.2.2.2.2.2.1 x1.2.2.2.2.2.2.2.2.2.2.2.2.2.2.2.2.2.2.2.2.2.2 p1
 bif x2.2.2.2.2.2 then
 (let x3 := F_fM_scaled (PK [.int .u16 p1, p2]) x1.1 x1.2.1 x1.2.2.1 x1.2.2.2.1 x1.2.2.2.2.1 x1.2.2.2.2.2.1 x1.2.2.2.2.2.2.1 x1.2.2.2.2.2.2.2.1 x1.2.2.2.2.2.2.2.2.1 x1.2.2.2.2.2.2.2.2.2.1 x1.2.2.2.2.2.2.2.2.2.2.1 x1.2.2.2.2.2.2.2.2.2.2.2.1 x2.1 x2.2.1 x2.2.2.1 x2.2.2.2.1 x2.2.2.2.2.1 p0
 bif (!x3.2.2.2.2.2) then
 (true)
 else
 (bif (pre_fM_paint [(PK [.int .u16 p1, p2]), (TK p2 (IntKind.i64.wrap ((LN p2) - 1))), .int .i64 x1.1, .int .i64 x1.2.1, .int .i64 x1.2.2.1, .int .i64 x1.2.2.2.1, .int .i64 x1.2.2.2.2.1, .int .i64 x1.2.2.2.2.2.1, .int .i64 x1.2.2.2.2.2.2.1, .int .u16 x1.2.2.2.2.2.2.2.1, .int .i64 x1.2.2.2.2.2.2.2.2.1, .int .i64 x1.2.2.2.2.2.2.2.2.2.1, .bool x1.2.2.2.2.2.2.2.2.2.2.1, .bool x1.2.2.2.2.2.2.2.2.2.2.2.1, .int .u16 x3.1, .int .u16 x3.2.1, .int .u16 x3.2.2.1, .int .u16 x3.2.2.2.1, .int .u16 x3.2.2.2.2.1]) then
 (let x4 := F_fM_paint (PK [.int .u16 p1, p2]) (TK p2 (IntKind.i64.wrap ((LN p2) - 1))) x1.1 x1.2.1 x1.2.2.1 x1.2.2.2.1 x1.2.2.2.2.1 x1.2.2.2.2.2.1 x1.2.2.2.2.2.2.1 x1.2.2.2.2.2.2.2.1 x1.2.2.2.2.2.2.2.2.1 x1.2.2.2.2.2.2.2.2.2.1 x1.2.2.2.2.2.2.2.2.2.2.1 x1.2.2.2.2.2.2.2.2.2.2.2.1 x3.1 x3.2.1 x3.2.2.1 x3.2.2.2.1 x3.2.2.2.2.1
 bif (!x4.2.2.2.2.2.2.2.2.2.2.2.2.2.2.2.2.2.2.2.2.2.2.2) then
 (true)
 else
 (bif (INB (TK p2 (IntKind.i64.wrap ((LN p2) - 1))) (IntKind.i64.wrap ((LN (TK p2 (IntKind.i64.wrap ((LN p2) - 1)))) - 1))) then
 (true)
 else
 (false)))
 else
 (false)))
 else
 (bif (!x2.2.2.2.2.2) then
 (true)
 else
 (bif (pre_fM_paint [(PK [.int .u16 p1, p2]), (TK p2 (IntKind.i64.wrap ((LN p2) - 1))), .int .i64 x1.1, .int .i64 x1.2.1, .int .i64 x1.2.2.1, .int .i64 x1.2.2.2.1, .int .i64 x1.2.2.2.2.1, .int .i64 x1.2.2.2.2.2.1, .int .i64 x1.2.2.2.2.2.2.1, .int .u16 x1.2.2.2.2.2.2.2.1, .int .i64 x1.2.2.2.2.2.2.2.2.1, .int .i64 x1.2.2.2.2.2.2.2.2.2.1, .bool x1.2.2.2.2.2.2.2.2.2.2.1, .bool x1.2.2.2.2.2.2.2.2.2.2.2.1, .int .u16 x2.1, .int .u16 x2.2.1, .int .u16 x2.2.2.1, .int .u16 x2.2.2.2.1, .int .u16 x2.2.2.2.2.1]) then
 (let x5 := F_fM_paint (PK [.int .u16 p1, p2]) (TK p2 (IntKind.i64.wrap ((LN p2) - 1))) x1.1 x1.2.1 x1.2.2.1 x1.2.2.2.1 x1.2.2.2.2.1 x1.2.2.2.2.2.1 x1.2.2.2.2.2.2.1 x1.2.2.2.2.2.2.2.1 x1.2.2.2.2.2.2.2.2.1 x1.2.2.2.2.2.2.2.2.2.1 x1.2.2.2.2.2.2.2.2.2.2.1 x1.2.2.2.2.2.2.2.2.2.2.2.1 x2.1 x2.2.1 x2.2.2.1 x2.2.2.2.1 x2.2.2.2.2.1
 bif (!x5.2.2.2.2.2.2.2.2.2.2.2.2.2.2.2.2.2.2.2.2.2.2.2) then
 (true)
 else
 (bif (INB (TK p2 (IntKind.i64.wrap ((LN p2) - 1))) (IntKind.i64.wrap ((LN (TK p2 (IntKind.i64.wrap ((LN p2) - 1)))) - 1))) then
 (true)
 else
 (false)))
 else
 (false))))
 else
 (false))))
 else
 (bif (decide (x1.2.2.2.2.2.2.2.1 > p1)) then
 (true)
 else
 (bif (TKB p2 (IntKind.i64.wrap ((LN p2) - 1))) then
 (let x6 := F_group_Result x1.2.2.2.2.2.2.2.2.2.2.2.2.1 x1.2.2.2.2.2.2.2.2.2.2.2.2.2.1 x1.2.2.2.2.2.2.2.2.2.2.2.2.2.2.1 x1.2.2.2.2.2.2.2.2.2.2.2.2.2.2.2.1 x1.2.2.2.2.2.2.2.2.2.2.2.2.2.2.2.2.1 x1.2.2.2.2.2.2.2.2.2.2.2.2.2.2.2.2.2.1 x1.2.2.2.2.2.2.2.2.2.2.2.2.2.2.2.2.2.2.1 x1.2.2.2.2.2.2.2.2.2.2.2.2.2.2.2.2.2.2.2.1 x1.2.2.2.2.2.2.2.2.2.2.2.2.2.2.2.2.2.2.2.2.1 x1.2.2.2.2.2.2.2.2.2.2.2.2.2.2.2.2.2.2.2.2.2.1 x1.2.2.2.2.2.2.2.2.2.2.2.2.2.2.2.2.2.2.2.2.2.2 p1
 bif x6.2.2.2.2.2 then
 (let x7 := F_fM_scaled (PK [.int .u16 p1, p2]) x1.1 x1.2.1 x1.2.2.1 x1.2.2.2.1 x1.2.2.2.2.1 x1.2.2.2.2.2.1 x1.2.2.2.2.2.2.1 x1.2.2.2.2.2.2.2.1 x1.2.2.2.2.2.2.2.2.1 x1.2.2.2.2.2.2.2.2.2.1 x1.2.2.2.2.2.2.2.2.2.2.1 x1.2.2.2.2.2.2.2.2.2.2.2.1 x6.1 x6.2.1 x6.2.2.1 x6.2.2.2.1 x6.2.2.2.2.1 p0
 bif (!x7.2.2.2.2.2) then
 (true)
 else
 (bif (pre_fM_paint [(PK [.int .u16 p1, p2]), (TK p2 (IntKind.i64.wrap ((LN p2) - 1))), .int .i64 x1.1, .int .i64 x1.2.1, .int .i64 x1.2.2.1, .int .i64 x1.2.2.2.1, .int .i64 x1.2.2.2.2.1, .int .i64 x1.2.2.2.2.2.1, .int .i64 x1.2.2.2.2.2.2.1, .int .u16 x1.2.2.2.2.2.2.2.1, .int .i64 x1.2.2.2.2.2.2.2.2.1, .int .i64 x1.2.2.2.2.2.2.2.2.2.1, .bool x1.2.2.2.2.2.2.2.2.2.2.1, .bool x1.2.2.2.2.2.2.2.2.2.2.2.1, .int .u16 x7.1, .int .u16 x7.2.1, .int .u16 x7.2.2.1, .int .u16 x7.2.2.2.1, .int .u16 x7.2.2.2.2.1]) then
 (let x8 := F_fM_paint (PK [.int .u16 p1, p2]) (TK p2 (IntKind.i64.wrap ((LN p2) - 1))) x1.1 x1.2.1 x1.2.2.1 x1.2.2.2.1 x1.2.2.2.2.1 x1.2.2.2.2.2.1 x1.2.2.2.2.2.2.1 x1.2.2.2.2.2.2.2.1 x1.2.2.2.2.2.2.2.2.1 x1.2.2.2.2.2.2.2.2.2.1 x1.2.2.2.2.2.2.2.2.2.2.1 x1.2.2.2.2.2.2.2.2.2.2.2.1 x7.1 x7.2.1 x7.2.2.1 x7.2.2.2.1 x7.2.2.2.2.1
 bif (!x8.2.2.2.2.2.2.2.2.2.2.2.2.2.2.2.2.2.2.2.2.2.2.2) then
 (true)
 else
 (bif (INB (TK p2 (IntKind.i64.wrap ((LN p2) - 1))) (IntKind.i64.wrap ((LN (TK p2 (IntKind.i64.wrap ((LN p2) - 1)))) - 1))) then
 (true)
 else
 (false)))
 else
 (false)))
 else
 (bif (!x6.2.2.2.2.2) then
 (true)
 else
 (bif (pre_fM_paint [(PK [.int .u16 p1, p2]), (TK p2 (IntKind.i64.wrap ((LN p2) - 1))), .int .i64 x1.1, .int .i64 x1.2.1, .int .i64 x1.2.2.1, .int .i64 x1.2.2.2.1, .int .i64 x1.2.2.2.2.1, .int .i64 x1.2.2.2.2.2.1, .int .i64 x1.2.2.2.2.2.2.1, .int .u16 x1.2.2.2.2.2.2.2.1, .int .i64 x1.2.2.2.2.2.2.2.2.1, .int .i64 x1.2.2.2.2.2.2.2.2.2.1, .bool x1.2.2.2.2.2.2.2.2.2.2.1, .bool x1.2.2.2.2.2.2.2.2.2.2.2.1, .int .u16 x6.1, .int .u16 x6.2.1, .int .u16 x6.2.2.1, .int .u16 x6.2.2.2.1, .int .u16 x6.2.2.2.2.1]) then
 (let x9 := F_fM_paint (PK [.int .u16 p1, p2]) (TK p2 (IntKind.i64.wrap ((LN p2) - 1))) x1.1 x1.2.1 x1.2.2.1 x1.2.2.2.1 x1.2.2.2.2.1 x1.2.2.2.2.2.1 x1.2.2.2.2.2.2.1 x1.2.2.2.2.2.2.2.1 x1.2.2.2.2.2.2.2.2.1 x1.2.2.2.2.2.2.2.2.2.1 x1.2.2.2.2.2.2.2.2.2.2.1 x1.2.2.2.2.2.2.2.2.2.2.2.1 x6.1 x6.2.1 x6.2.2.1 x6.2.2.2.1 x6.2.2.2.2.1
 bif (!x9.2.2.2.2.2.2.2.2.2.2.2.2.2.2.2.2.2.2.2.2.2.2.2) then
 (true)
 else
 (bif (INB (TK p2 (IntKind.i64.wrap ((LN p2) - 1))) (IntKind.i64.wrap ((LN (TK p2 (IntKind.i64.wrap ((LN p2) - 1)))) - 1))) then
 (true)
 else
 (false)))
 else
 (false))))
 else
 (false))))
 else
 (false)))
 else
 (false) := (okR_eq _).trans (by kernel_rfl)
theorem env_fM_Pop : EnvOK Tryz.prog InvN ⟨[C_fM_top, C_fM_paint, C_fM_Depth], []⟩ ∧ AllOK Tryz.prog InvN [S_group_Result, S_fM_scaled] := ⟨⟨(allC_cons ok_fM_top (allC_cons ok_fM_paint (allC_cons ok_fM_Depth allC_nil))), allL_nil⟩, (allOK_cons ok_group_Result (allOK_cons ok_fM_scaled allOK_nil))⟩
theorem okA_fM_Pop (h : ∀ p0 p1 p2, IntKind.u16.min ≤ p0 → p0 ≤ IntKind.u16.max → IntKind.u16.min ≤ p1 → p1 ≤ IntKind.u16.max → inKind (.l LV) p2 → pre_fM_Pop [.int .u16 p0, .int .u16 p1, p2] = true → (evB ⟨[C_fM_top, C_fM_paint, C_fM_Depth], []⟩ Tryz.prog [S_group_Result, S_fM_scaled] 1000 LC0_fM_Pop [.int .u16 p0, .int .u16 p1, p2]).ok = true) : LoopTrue Tryz.prog InvN LC_fM_Pop := body_true env_fM_Pop.1 env_fM_Pop.2 1000 LC_fM_Pop rfl (fun xs => LF_fM_Pop_is xs) (by
 refine kLi fun p0 p0lo p0hi => ?_
 refine kLi fun p1 p1lo p1hi => ?_
 refine kLc fun p2 p2k => ?_
 refine kLn ?_
 intro hp
 exact h p0 p1 p2 p0lo p0hi p1lo p1hi p2k hp)
theorem ok_fM_Pop : LoopTrue Tryz.prog InvN LC_fM_Pop := okA_fM_Pop fun p0 p1 p2 _ _ _ _ _ hp => by
 have hp : lenOK p2 = true := hp
 have h2 := lenOK.tkb hp
 have k : (F_fM_Depth (PK [.int .u16 p1, p2]) == 0) = false → lenOK (TK p2 (IntKind.i64.wrap (LN p2 - 1))) = true := fun h => lenOK.tk hp (by rw [F_fM_Depth_eq] at h; exact h)
 rw [okB_fM_Pop]
 repeat' (first | with_reducible rfl | refine bif_ok (fun h => ?_) (fun h => ?_))
 all_goals first | exact bool_no h2 h | exact bool_no (k (by assumption)) h | exact bool_no (lenOK.last (k (by assumption))) h | exact bool_no hp h | exact bool_no (c := true) rfl h
def A_fM_Back : List PS := [.c (.q [.i .u16, .l LV])]
def R_fM_Back : RS := .one (.agg [.i .u16, .i .u16, .i .u16, .i .u16, .i .u16])
noncomputable def L_fM_Back : List Value → List Value := Classical.choose (veil fun vs => (evFM ⟨[C_fM_top], []⟩ Tryz.prog [] 1000 31 (inL A_fM_Back vs) R_fM_Back).outL)
theorem L_fM_Back_is (vs : List Value) : L_fM_Back vs = (evFM ⟨[C_fM_top], []⟩ Tryz.prog [] 1000 31 (inL A_fM_Back vs) R_fM_Back).outL := Classical.choose_spec (veil _) vs
def pre_fM_Back : List Value → Bool := fun vs => lenOK (CV (vs.getD 0 undef) 1)
noncomputable def C_fM_Back : CSum := ⟨31, L_fM_Back, pre_fM_Back, A_fM_Back, R_fM_Back⟩
theorem env_fM_Back : EnvOK Tryz.prog InvN ⟨[C_fM_top], []⟩ ∧ AllOK Tryz.prog InvN [] := ⟨⟨(allC_cons ok_fM_top allC_nil), allL_nil⟩, allOK_nil⟩
theorem okG_fM_Back (vs : List Value) : (evFM ⟨[C_fM_top], []⟩ Tryz.prog [] 1000 31 (inL A_fM_Back vs) R_fM_Back).goodX R_fM_Back = true := by kernel_rfl
theorem okB_fM_Back (p0 : Value) : (evFM ⟨[C_fM_top], []⟩ Tryz.prog [] 1000 31 (inL A_fM_Back [p0]) R_fM_Back).ok =
 bif (pre_fM_top [p0]) then
 (true)
 else
 (false) := (okR_eq _).trans (by kernel_rfl)
theorem okA_fM_Back (h : ∀ p0 , inKind (.q [.i .u16, .l LV]) p0 → pre_fM_Back [p0] = true → (evFM ⟨[C_fM_top], []⟩ Tryz.prog [] 1000 31 (inL A_fM_Back [p0]) R_fM_Back).ok = true) : CSumOK Tryz.prog InvN C_fM_Back := csumOK_partV invN_stays env_fM_Back.1 env_fM_Back.2 1000 31 A_fM_Back R_fM_Back L_fM_Back_is pre_fM_Back okG_fM_Back (fun vs hk hp => by
 obtain ⟨p0, _, rfl, p0k, rfl⟩ := hk
 exact h p0 p0k hp)
theorem ok_fM_Back : CSumOK Tryz.prog InvN C_fM_Back := okA_fM_Back fun p0 _ hp => by
 have hp : pre_fM_top [p0] = true := hp
 rw [okB_fM_Back, hp]
 rfl
theorem clone_eq {L : Value} (hp : lenOK L = true) : F_slices_Clone L = CT NILV L := by
 rw [F_slices_Clone_eq, lenOK.first hp, lenOK.clone hp]
 rfl
noncomputable def F_fM_Back (p0 : Value) : Int × Int × Int × Int × Int := (fun l => (num (l.getD 0 undef), num (l.getD 1 undef), num (l.getD 2 undef), num (l.getD 3 undef), num (l.getD 4 undef))) (L_fM_Back [p0])
theorem F_fM_Back_eq (p0 : Value) : F_fM_Back p0 =
 bif (pre_fM_top [p0]) then
 (let x0 := F_fM_top p0
 (x0.2.2.2.2.2.2.2.2.2.2.2.2.2.2.2.2.2.2.1, x0.2.2.2.2.2.2.2.2.2.2.2.2.2.2.2.2.2.2.2.1, x0.2.2.2.2.2.2.2.2.2.2.2.2.2.2.2.2.2.2.2.2.1, x0.2.2.2.2.2.2.2.2.2.2.2.2.2.2.2.2.2.2.2.2.2.1, x0.2.2.2.2.2.2.2.2.2.2.2.2.2.2.2.2.2.2.2.2.2.2))
 else
 (((num undef), (num undef), (num undef), (num undef), (num undef))) :=
 spellV (L := L_fM_Back) (fun l => (num (l.getD 0 undef), num (l.getD 1 undef), num (l.getD 2 undef), num (l.getD 3 undef), num (l.getD 4 undef))) (evFM ⟨[C_fM_top], []⟩ Tryz.prog [] 1000 31 (inL A_fM_Back [p0]) R_fM_Back) (L_fM_Back_is _) (by kernel_rfl)
def A_rM_top : List PS := [.c (.q [.i .u16, .l LV])]
def R_rM_top : RS := .one (.c (.i .i64))
noncomputable def L_rM_top : List Value → List Value := Classical.choose (veil fun vs => (evFM ⟨[], []⟩ Tryz.prog [] 1000 40 (inL A_rM_top vs) R_rM_top).outL)
theorem L_rM_top_is (vs : List Value) : L_rM_top vs = (evFM ⟨[], []⟩ Tryz.prog [] 1000 40 (inL A_rM_top vs) R_rM_top).outL := Classical.choose_spec (veil _) vs
def pre_rM_top : List Value → Bool := fun _ => true
noncomputable def C_rM_top : CSum := ⟨40, L_rM_top, pre_rM_top, A_rM_top, R_rM_top⟩
theorem env_rM_top : EnvOK Tryz.prog InvN ⟨[], []⟩ ∧ AllOK Tryz.prog InvN [] := ⟨⟨allC_nil, allL_nil⟩, allOK_nil⟩
theorem okG_rM_top (vs : List Value) : (evFM ⟨[], []⟩ Tryz.prog [] 1000 40 (inL A_rM_top vs) R_rM_top).goodX R_rM_top = true := by kernel_rfl
theorem ok_rM_top : CSumOK Tryz.prog InvN C_rM_top := csumOK_partV invN_stays env_rM_top.1 env_rM_top.2 1000 40 A_rM_top R_rM_top L_rM_top_is pre_rM_top okG_rM_top (fun vs _ _ => ok_of_sure (t := evFM ⟨[], []⟩ Tryz.prog [] 1000 40 (inL A_rM_top vs) R_rM_top) (by kernel_rfl))
noncomputable def F_rM_top (p0 : Value) : Int := (fun l => num (l.getD 0 undef)) (L_rM_top [p0])
theorem F_rM_top_eq (p0 : Value) : F_rM_top p0 =
 (IntKind.i64.wrap ((LN (CV p0 1)) - 1)) :=
 spellV (L := L_rM_top) (fun l => num (l.getD 0 undef)) (evFM ⟨[], []⟩ Tryz.prog [] 1000 40 (inL A_rM_top [p0]) R_rM_top) (L_rM_top_is _) (by kernel_rfl)
def A_rM_Depth : List PS := [.c (.q [.i .u16, .l LV])]
def R_rM_Depth : RS := .one (.c (.i .i64))
noncomputable def L_rM_Depth : List Value → List Value := Classical.choose (veil fun vs => (evFM ⟨[], []⟩ Tryz.prog [] 1000 30 (inL A_rM_Depth vs) R_rM_Depth).outL)
theorem L_rM_Depth_is (vs : List Value) : L_rM_Depth vs = (evFM ⟨[], []⟩ Tryz.prog [] 1000 30 (inL A_rM_Depth vs) R_rM_Depth).outL := Classical.choose_spec (veil _) vs
def pre_rM_Depth : List Value → Bool := fun _ => true
noncomputable def C_rM_Depth : CSum := ⟨30, L_rM_Depth, pre_rM_Depth, A_rM_Depth, R_rM_Depth⟩
theorem env_rM_Depth : EnvOK Tryz.prog InvN ⟨[], []⟩ ∧ AllOK Tryz.prog InvN [] := ⟨⟨allC_nil, allL_nil⟩, allOK_nil⟩
theorem okG_rM_Depth (vs : List Value) : (evFM ⟨[], []⟩ Tryz.prog [] 1000 30 (inL A_rM_Depth vs) R_rM_Depth).goodX R_rM_Depth = true := by kernel_rfl
theorem ok_rM_Depth : CSumOK Tryz.prog InvN C_rM_Depth := csumOK_partV invN_stays env_rM_Depth.1 env_rM_Depth.2 1000 30 A_rM_Depth R_rM_Depth L_rM_Depth_is pre_rM_Depth okG_rM_Depth (fun vs _ _ => ok_of_sure (t := evFM ⟨[], []⟩ Tryz.prog [] 1000 30 (inL A_rM_Depth vs) R_rM_Depth) (by kernel_rfl))
noncomputable def F_rM_Depth (p0 : Value) : Int := (fun l => num (l.getD 0 undef)) (L_rM_Depth [p0])
theorem F_rM_Depth_eq (p0 : Value) : F_rM_Depth p0 =
 (IntKind.i64.wrap ((LN (CV p0 1)) - 1)) :=
 spellV (L := L_rM_Depth) (fun l => num (l.getD 0 undef)) (evFM ⟨[], []⟩ Tryz.prog [] 1000 30 (inL A_rM_Depth [p0]) R_rM_Depth) (L_rM_Depth_is _) (by kernel_rfl)
def A_rM_Acc : List PS := [.c (.q [.i .u16, .l LV])]
def R_rM_Acc : RS := .one (.agg [.i .u16, .i .u16, .i .u16, .i .u16, .i .u16, .i .u16])
noncomputable def L_rM_Acc : List Value → List Value := Classical.choose (veil fun vs => (evFM ⟨[C_rM_top], []⟩ Tryz.prog [] 1000 27 (inL A_rM_Acc vs) R_rM_Acc).outL)
theorem L_rM_Acc_is (vs : List Value) : L_rM_Acc vs = (evFM ⟨[C_rM_top], []⟩ Tryz.prog [] 1000 27 (inL A_rM_Acc vs) R_rM_Acc).outL := Classical.choose_spec (veil _) vs
def pre_rM_Acc : List Value → Bool := fun vs => lenOK (CV (vs.getD 0 undef) 1)
noncomputable def C_rM_Acc : CSum := ⟨27, L_rM_Acc, pre_rM_Acc, A_rM_Acc, R_rM_Acc⟩
theorem env_rM_Acc : EnvOK Tryz.prog InvN ⟨[C_rM_top], []⟩ ∧ AllOK Tryz.prog InvN [] := ⟨⟨(allC_cons ok_rM_top allC_nil), allL_nil⟩, allOK_nil⟩
theorem okG_rM_Acc (vs : List Value) : (evFM ⟨[C_rM_top], []⟩ Tryz.prog [] 1000 27 (inL A_rM_Acc vs) R_rM_Acc).goodX R_rM_Acc = true := by kernel_rfl
theorem okB_rM_Acc (p0 : Value) : (evFM ⟨[C_rM_top], []⟩ Tryz.prog [] 1000 27 (inL A_rM_Acc [p0]) R_rM_Acc).ok =
 bif (pre_rM_top [p0]) then
 (let x0 := F_rM_top p0
 bif (INB (CV p0 1) x0) then
 (true)
 else
 (false))
 else
 (false) := (okR_eq _).trans (by kernel_rfl)
theorem okA_rM_Acc (h : ∀ p0 , inKind (.q [.i .u16, .l LV]) p0 → pre_rM_Acc [p0] = true → (evFM ⟨[C_rM_top], []⟩ Tryz.prog [] 1000 27 (inL A_rM_Acc [p0]) R_rM_Acc).ok = true) : CSumOK Tryz.prog InvN C_rM_Acc := csumOK_partV invN_stays env_rM_Acc.1 env_rM_Acc.2 1000 27 A_rM_Acc R_rM_Acc L_rM_Acc_is pre_rM_Acc okG_rM_Acc (fun vs hk hp => by
 obtain ⟨p0, _, rfl, p0k, rfl⟩ := hk
 exact h p0 p0k hp)
theorem ok_rM_Acc : CSumOK Tryz.prog InvN C_rM_Acc := okA_rM_Acc fun p0 _ hp => by
 have hp : lenOK (CV p0 1) = true := hp
 have h1 : INB (CV p0 1) (F_rM_top p0) = true := by rw [F_rM_top_eq]; exact lenOK.last hp
 rw [okB_rM_Acc]
 repeat' (first | with_reducible rfl | refine bif_ok (fun h => ?_) (fun h => ?_))
 all_goals first | exact bool_no h1 h | exact bool_no (c := true) rfl h
noncomputable def F_rM_Acc (p0 : Value) : Int × Int × Int × Int × Int × Int := (fun l => (num (l.getD 0 undef), num (l.getD 1 undef), num (l.getD 2 undef), num (l.getD 3 undef), num (l.getD 4 undef), num (l.getD 5 undef))) (L_rM_Acc [p0])
theorem F_rM_Acc_eq (p0 : Value) : F_rM_Acc p0 =
 bif (pre_rM_top [p0]) then
 (let x0 := F_rM_top p0
 bif (INB (CV p0 1) x0) then
 (((num (CV (IX (CV p0 1) x0) 12)), (num (CV (IX (CV p0 1) x0) 13)), (num (CV (IX (CV p0 1) x0) 14)), (num (CV (IX (CV p0 1) x0) 15)), (num (CV (IX (CV p0 1) x0) 16)), (num (CV (IX (CV p0 1) x0) 17))))
 else
 (((num undef), (num undef), (num undef), (num undef), (num undef), (num undef))))
 else
 (((num undef), (num undef), (num undef), (num undef), (num undef), (num undef))) :=
 spellV (L := L_rM_Acc) (fun l => (num (l.getD 0 undef), num (l.getD 1 undef), num (l.getD 2 undef), num (l.getD 3 undef), num (l.getD 4 undef), num (l.getD 5 undef))) (evFM ⟨[C_rM_top], []⟩ Tryz.prog [] 1000 27 (inL A_rM_Acc [p0]) R_rM_Acc) (L_rM_Acc_is _) (by kernel_rfl)
def A_rM_Back : List PS := [.c (.q [.i .u16, .l LV])]
def R_rM_Back : RS := .one (.agg [.i .u16, .i .u16, .i .u16, .i .u16, .i .u16])
noncomputable def L_rM_Back : List Value → List Value := Classical.choose (veil fun vs => (evFM ⟨[C_rM_top], []⟩ Tryz.prog [] 1000 32 (inL A_rM_Back vs) R_rM_Back).outL)
theorem L_rM_Back_is (vs : List Value) : L_rM_Back vs = (evFM ⟨[C_rM_top], []⟩ Tryz.prog [] 1000 32 (inL A_rM_Back vs) R_rM_Back).outL := Classical.choose_spec (veil _) vs
def pre_rM_Back : List Value → Bool := fun vs => lenOK (CV (vs.getD 0 undef) 1)
noncomputable def C_rM_Back : CSum := ⟨32, L_rM_Back, pre_rM_Back, A_rM_Back, R_rM_Back⟩
theorem env_rM_Back : EnvOK Tryz.prog InvN ⟨[C_rM_top], []⟩ ∧ AllOK Tryz.prog InvN [] := ⟨⟨(allC_cons ok_rM_top allC_nil), allL_nil⟩, allOK_nil⟩
theorem okG_rM_Back (vs : List Value) : (evFM ⟨[C_rM_top], []⟩ Tryz.prog [] 1000 32 (inL A_rM_Back vs) R_rM_Back).goodX R_rM_Back = true := by kernel_rfl
theorem okB_rM_Back (p0 : Value) : (evFM ⟨[C_rM_top], []⟩ Tryz.prog [] 1000 32 (inL A_rM_Back [p0]) R_rM_Back).ok =
 bif (pre_rM_top [p0]) then
 (let x0 := F_rM_top p0
 bif (INB (CV p0 1) x0) then
 (true)
 else
 (false))
 else
 (false) := (okR_eq _).trans (by kernel_rfl)
theorem okA_rM_Back (h : ∀ p0 , inKind (.q [.i .u16, .l LV]) p0 → pre_rM_Back [p0] = true → (evFM ⟨[C_rM_top], []⟩ Tryz.prog [] 1000 32 (inL A_rM_Back [p0]) R_rM_Back).ok = true) : CSumOK Tryz.prog InvN C_rM_Back := csumOK_partV invN_stays env_rM_Back.1 env_rM_Back.2 1000 32 A_rM_Back R_rM_Back L_rM_Back_is pre_rM_Back okG_rM_Back (fun vs hk hp => by
 obtain ⟨p0, _, rfl, p0k, rfl⟩ := hk
 exact h p0 p0k hp)
theorem ok_rM_Back : CSumOK Tryz.prog InvN C_rM_Back := okA_rM_Back fun p0 _ hp => by
 have hp : lenOK (CV p0 1) = true := hp
 have h1 : INB (CV p0 1) (F_rM_top p0) = true := by rw [F_rM_top_eq]; exact lenOK.last hp
 rw [okB_rM_Back]
 repeat' (first | with_reducible rfl | refine bif_ok (fun h => ?_) (fun h => ?_))
 all_goals first | exact bool_no h1 h | exact bool_no (c := true) rfl h
noncomputable def F_rM_Back (p0 : Value) : Int × Int × Int × Int × Int := (fun l => (num (l.getD 0 undef), num (l.getD 1 undef), num (l.getD 2 undef), num (l.getD 3 undef), num (l.getD 4 undef))) (L_rM_Back [p0])
theorem F_rM_Back_eq (p0 : Value) : F_rM_Back p0 =
 bif (pre_rM_top [p0]) then
 (let x0 := F_rM_top p0
 bif (INB (CV p0 1) x0) then
 (((num (CV (IX (CV p0 1) x0) 18)), (num (CV (IX (CV p0 1) x0) 19)), (num (CV (IX (CV p0 1) x0) 20)), (num (CV (IX (CV p0 1) x0) 21)), (num (CV (IX (CV p0 1) x0) 22))))
 else
 (((num undef), (num undef), (num undef), (num undef), (num undef))))
 else
 (((num undef), (num undef), (num undef), (num undef), (num undef))) :=
 spellV (L := L_rM_Back) (fun l => (num (l.getD 0 undef), num (l.getD 1 undef), num (l.getD 2 undef), num (l.getD 3 undef), num (l.getD 4 undef))) (evFM ⟨[C_rM_top], []⟩ Tryz.prog [] 1000 32 (inL A_rM_Back [p0]) R_rM_Back) (L_rM_Back_is _) (by kernel_rfl)
def A_rM_Result : List PS := [.c (.q [.i .u16, .l LV])]
def R_rM_Result : RS := .tup [.agg [.i .u16, .i .u16, .i .u16, .i .u16, .i .u16], .c (.i .i64)]
noncomputable def L_rM_Result : List Value → List Value := Classical.choose (veil fun vs => (evFM ⟨[C_rM_Depth], []⟩ Tryz.prog [S_r6_Result] 1000 29 (inL A_rM_Result vs) R_rM_Result).outL)
theorem L_rM_Result_is (vs : List Value) : L_rM_Result vs = (evFM ⟨[C_rM_Depth], []⟩ Tryz.prog [S_r6_Result] 1000 29 (inL A_rM_Result vs) R_rM_Result).outL := Classical.choose_spec (veil _) vs
def pre_rM_Result : List Value → Bool := fun vs => lenOK (CV (vs.getD 0 undef) 1)
noncomputable def C_rM_Result : CSum := ⟨29, L_rM_Result, pre_rM_Result, A_rM_Result, R_rM_Result⟩
theorem env_rM_Result : EnvOK Tryz.prog InvN ⟨[C_rM_Depth], []⟩ ∧ AllOK Tryz.prog InvN [S_r6_Result] := ⟨⟨(allC_cons ok_rM_Depth allC_nil), allL_nil⟩, (allOK_cons ok_r6_Result allOK_nil)⟩
theorem okG_rM_Result (vs : List Value) : (evFM ⟨[C_rM_Depth], []⟩ Tryz.prog [S_r6_Result] 1000 29 (inL A_rM_Result vs) R_rM_Result).goodX R_rM_Result = true := by kernel_rfl
theorem okB_rM_Result (p0 : Value) : (evFM ⟨[C_rM_Depth], []⟩ Tryz.prog [S_r6_Result] 1000 29 (inL A_rM_Result [p0]) R_rM_Result).ok =
 bif (pre_rM_Depth [p0]) then
 (let x0 := F_rM_Depth p0
 bif (decide (x0 > 0)) then
 (true)
 else
 (bif (INB (CV p0 1) 0) then
 (bif (INB (CV p0 1) 0) then
 (true)
 else
 (false))
 else
 (false)))
 else
 (false) := (okR_eq _).trans (by kernel_rfl)
theorem okA_rM_Result (h : ∀ p0 , inKind (.q [.i .u16, .l LV]) p0 → pre_rM_Result [p0] = true → (evFM ⟨[C_rM_Depth], []⟩ Tryz.prog [S_r6_Result] 1000 29 (inL A_rM_Result [p0]) R_rM_Result).ok = true) : CSumOK Tryz.prog InvN C_rM_Result := csumOK_partV invN_stays env_rM_Result.1 env_rM_Result.2 1000 29 A_rM_Result R_rM_Result L_rM_Result_is pre_rM_Result okG_rM_Result (fun vs hk hp => by
 obtain ⟨p0, _, rfl, p0k, rfl⟩ := hk
 exact h p0 p0k hp)
theorem ok_rM_Result : CSumOK Tryz.prog InvN C_rM_Result := okA_rM_Result fun p0 _ hp => by
 have hp : lenOK (CV p0 1) = true := hp
 have h1 := lenOK.first hp
 rw [okB_rM_Result]
 repeat' (first | with_reducible rfl | refine bif_ok (fun h => ?_) (fun h => ?_))
 all_goals first | exact bool_no h1 h | exact bool_no (c := true) rfl h
noncomputable def F_rM_Result (p0 : Value) : Int × Int × Int × Int × Int × Int := (fun l => (num (l.getD 0 undef), num (l.getD 1 undef), num (l.getD 2 undef), num (l.getD 3 undef), num (l.getD 4 undef), num (l.getD 5 undef))) (L_rM_Result [p0])
theorem F_rM_Result_eq (p0 : Value) : F_rM_Result p0 =
 bif (pre_rM_Depth [p0]) then
 (let x0 := F_rM_Depth p0
 bif (decide (x0 > 0)) then
 ((0, 0, 0, 0, 0, 18))
 else
 (bif (INB (CV p0 1) 0) then
 (bif (INB (CV p0 1) 0) then
 (let x1 := F_r6_Result (num (CV (IX (CV p0 1) 0) 12)) (num (CV (IX (CV p0 1) 0) 13)) (num (CV (IX (CV p0 1) 0) 14)) (num (CV (IX (CV p0 1) 0) 15)) (num (CV (IX (CV p0 1) 0) 16)) (num (CV (IX (CV p0 1) 0) 17)) (num (CV (IX (CV p0 1) 0) 18)) (num (CV (IX (CV p0 1) 0) 19)) (num (CV (IX (CV p0 1) 0) 20)) (num (CV (IX (CV p0 1) 0) 21)) (num (CV (IX (CV p0 1) 0) 22)) (num (CV p0 0))
 (x1.1, x1.2.1, x1.2.2.1, x1.2.2.2.1, x1.2.2.2.2.1, 0))
 else
 (((num undef), (num undef), (num undef), (num undef), (num undef), (num undef))))
 else
 (((num undef), (num undef), (num undef), (num undef), (num undef), (num undef)))))
 else
 (((num undef), (num undef), (num undef), (num undef), (num undef), (num undef))) :=
 spellV (L := L_rM_Result) (fun l => (num (l.getD 0 undef), num (l.getD 1 undef), num (l.getD 2 undef), num (l.getD 3 undef), num (l.getD 4 undef), num (l.getD 5 undef))) (evFM ⟨[C_rM_Depth], []⟩ Tryz.prog [S_r6_Result] 1000 29 (inL A_rM_Result [p0]) R_rM_Result) (L_rM_Result_is _) (by kernel_rfl)
def A_r2_scaled : List PS := [.agg [.i .i64, .i .i64, .i .i64, .i .i64, .i .i64, .i .i64, .i .i64, .i .u16, .i .i64, .i .i64, .b, .b], .agg [.i .u16, .i .u16, .i .u16, .i .u16, .i .u16], .c (.i .u16), .c (.i .u16)]
def R_r2_scaled : RS := .tup [.agg [.i .u16, .i .u16, .i .u16, .i .u16, .i .u16], .c (.b)]
noncomputable def L_r2_scaled : List Value → List Value := Classical.choose (veil fun vs => (evFM ⟨[], []⟩ Tryz.prog [S_r6_Both] 1000 44 (inL A_r2_scaled vs) R_r2_scaled).outL)
theorem L_r2_scaled_is (vs : List Value) : L_r2_scaled vs = (evFM ⟨[], []⟩ Tryz.prog [S_r6_Both] 1000 44 (inL A_r2_scaled vs) R_r2_scaled).outL := Classical.choose_spec (veil _) vs
noncomputable def S_r2_scaled : Sum := ⟨44, L_r2_scaled, A_r2_scaled, R_r2_scaled⟩
theorem env_r2_scaled : EnvOK Tryz.prog InvN ⟨[], []⟩ ∧ AllOK Tryz.prog InvN [S_r6_Both] := ⟨⟨allC_nil, allL_nil⟩, (allOK_cons ok_r6_Both allOK_nil)⟩
theorem okG_r2_scaled (vs : List Value) : (evFM ⟨[], []⟩ Tryz.prog [S_r6_Both] 1000 44 (inL A_r2_scaled vs) R_r2_scaled).goodX R_r2_scaled = true := by kernel_rfl
theorem ok_r2_scaled : SumOK Tryz.prog InvN S_r2_scaled := sumOK_partL invN_stays env_r2_scaled.1 env_r2_scaled.2 1000 44 A_r2_scaled R_r2_scaled L_r2_scaled_is okG_r2_scaled (fun vs _ => ok_of_sure (t := evFM ⟨[], []⟩ Tryz.prog [S_r6_Both] 1000 44 (inL A_r2_scaled vs) R_r2_scaled) (by kernel_rfl))
noncomputable def F_r2_scaled (p0 p1 p2 p3 p4 p5 p6 p7 p8 p9 : Int) (p10 p11 : Bool) (p12 p13 p14 p15 p16 p17 p18 : Int) : Int × Int × Int × Int × Int × Bool := (fun l => (num (l.getD 0 undef), num (l.getD 1 undef), num (l.getD 2 undef), num (l.getD 3 undef), num (l.getD 4 undef), tru (l.getD 5 undef))) (L_r2_scaled [.int .i64 p0, .int .i64 p1, .int .i64 p2, .int .i64 p3, .int .i64 p4, .int .i64 p5, .int .i64 p6, .int .u16 p7, .int .i64 p8, .int .i64 p9, .bool p10, .bool p11, .int .u16 p12, .int .u16 p13, .int .u16 p14, .int .u16 p15, .int .u16 p16, .int .u16 p17, .int .u16 p18])
theorem F_r2_scaled_eq (p0 p1 p2 p3 p4 p5 p6 p7 p8 p9 : Int) (p10 p11 : Bool) (p12 p13 p14 p15 p16 p17 p18 : Int) : F_r2_scaled p0 p1 p2 p3 p4 p5 p6 p7 p8 p9 p10 p11 p12 p13 p14 p15 p16 p17 p18 =
 bif (p4 != 0) then
 (let x0 := F_r6_Both p12 p13 p14 p15 p16 p17 p7 p18
 (x0.1, x0.2.1, x0.2.2.1, x0.2.2.2.1, x0.2.2.2.2.1, x0.2.2.2.2.2))
 else
 (let x1 := F_r6_Both p12 p13 p14 p15 p16 p18 p7 p18
 (x1.1, x1.2.1, x1.2.2.1, x1.2.2.2.1, x1.2.2.2.2.1, x1.2.2.2.2.2)) :=
 spellV (L := L_r2_scaled) (fun l => (num (l.getD 0 undef), num (l.getD 1 undef), num (l.getD 2 undef), num (l.getD 3 undef), num (l.getD 4 undef), tru (l.getD 5 undef))) (evFM ⟨[], []⟩ Tryz.prog [S_r6_Both] 1000 44 (inL A_r2_scaled [.int .i64 p0, .int .i64 p1, .int .i64 p2, .int .i64 p3, .int .i64 p4, .int .i64 p5, .int .i64 p6, .int .u16 p7, .int .i64 p8, .int .i64 p9, .bool p10, .bool p11, .int .u16 p12, .int .u16 p13, .int .u16 p14, .int .u16 p15, .int .u16 p16, .int .u16 p17, .int .u16 p18]) R_r2_scaled) (L_r2_scaled_is _) (by kernel_rfl)
def head_rM_paint : Shp := ⟨[.p (.c (.p 0 0)), .p (.agg [.h (.i .i64), .h (.i .i64), .h (.i .i64), .h (.i .i64), .h (.i .i64), .h (.i .i64), .h (.i .i64), .h (.i .u16), .h (.i .i64), .h (.i .i64), .h (.b), .h (.b)]), .p (.agg [.h (.i .u16), .h (.i .u16), .h (.i .u16), .h (.i .u16), .h (.i .u16)])], [(0, ⟨[.h (.i .u16), .ar 1 LV 67], 70, true, none⟩), (1, ⟨[], 67, true, some LV⟩)]⟩
def outs_rM_paint : List (Xt × Shp × Nat) := [(.ret, ⟨[.p (.c (.h (.b))), .p (.c (.p 0 0))], [(0, ⟨[.h (.i .u16), .ar 1 LV 67], 70, true, none⟩), (1, ⟨[], 67, true, some LV⟩)]⟩, 2)]
def LC0_rM_paint : LoopC := ⟨45, 99999, fun _ => [], fun _ => true, 2, head_rM_paint, outs_rM_paint⟩
noncomputable def LF_rM_paint : List Value → List Value := Classical.choose (veil fun vs => (evB ⟨[C_rM_top], []⟩ Tryz.prog [S_r6_Step] 1000 LC0_rM_paint vs).outL)
theorem LF_rM_paint_is (vs : List Value) : LF_rM_paint vs = (evB ⟨[C_rM_top], []⟩ Tryz.prog [S_r6_Step] 1000 LC0_rM_paint vs).outL := Classical.choose_spec (veil _) vs
def pre_rM_paint : List Value → Bool := fun vs => lenOK (vs.getD 18 undef)
noncomputable def LC_rM_paint : LoopC := ⟨45, 99999, LF_rM_paint, pre_rM_paint, 2, head_rM_paint, outs_rM_paint⟩
noncomputable def OUT_rM_paint (_p0 _p1 _p2 _p3 _p4 _p5 _p6 _p7 p8 p9 : Int) (_p10 _p11 : Bool) (p12 p13 p14 p15 p16 p17 : Int) (p18 : Value) : List Value :=
 bif (pre_rM_top [(PK [.int .u16 p17, p18])]) then
 (let x0 := F_rM_top (PK [.int .u16 p17, p18])
 bif (INB p18 x0) then
 (bif (INB p18 x0) then
 (bif (INB p18 x0) then
 (let x1 := F_r6_Step (tru (CV (IX p18 x0) 11)) p8 p9 p17 p12 p13 p14 p15 p16 (num (CV (IX p18 x0) 12)) (num (CV (IX p18 x0) 13)) (num (CV (IX p18 x0) 14)) (num (CV (IX p18 x0) 15)) (num (CV (IX p18 x0) 16)) (num (CV (IX p18 x0) 17)) (num (CV (IX p18 x0) 18)) (num (CV (IX p18 x0) 19)) (num (CV (IX p18 x0) 20)) (num (CV (IX p18 x0) 21)) (num (CV (IX p18 x0) 22))
 bif x1.2.2.2.2.2.2 then
 (bif (INB p18 x0) then
 ([.int .i64 0, .bool x1.2.2.2.2.2.2, .int .u16 p17, (ST 12 p18 x0 [.int .u16 x1.1, .int .u16 x1.2.1, .int .u16 x1.2.2.1, .int .u16 x1.2.2.2.1, .int .u16 x1.2.2.2.2.1, .int .u16 x1.2.2.2.2.2.1])])
 else
 ([]))
 else
 ([.int .i64 0, .bool x1.2.2.2.2.2.2, .int .u16 p17, p18]))
 else
 ([]))
 else
 ([]))
 else
 ([]))
 else
 ([])
theorem LF_rM_paint_eq (p0 p1 p2 p3 p4 p5 p6 p7 p8 p9 : Int) (p10 p11 : Bool) (p12 p13 p14 p15 p16 p17 : Int) (p18 : Value) : LF_rM_paint [.int .i64 p0, .int .i64 p1, .int .i64 p2, .int .i64 p3, .int .i64 p4, .int .i64 p5, .int .i64 p6, .int .u16 p7, .int .i64 p8, .int .i64 p9, .bool p10, .bool p11, .int .u16 p12, .int .u16 p13, .int .u16 p14, .int .u16 p15, .int .u16 p16, .int .u16 p17, p18] = OUT_rM_paint p0 p1 p2 p3 p4 p5 p6 p7 p8 p9 p10 p11 p12 p13 p14 p15 p16 p17 p18 := (LF_rM_paint_is _).trans ((fold_eq (fun l => l) _).trans (by kernel_rfl))
theorem okB_rM_paint (p0 p1 p2 p3 p4 p5 p6 p7 p8 p9 : Int) (p10 p11 : Bool) (p12 p13 p14 p15 p16 p17 : Int) (p18 : Value) : (evB ⟨[C_rM_top], []⟩ Tryz.prog [S_r6_Step] 1000 LC0_rM_paint [.int .i64 p0, .int .i64 p1, .int .i64 p2, .int .i64 p3, .int .i64 p4, .int .i64 p5, .int .i64 p6, .int .u16 p7, .int .i64 p8, .int .i64 p9, .bool p10, .bool p11, .int .u16 p12, .int .u16 p13, .int .u16 p14, .int .u16 p15, .int .u16 p16, .int .u16 p17, p18]).ok =
 bif (pre_rM_top [(PK [.int .u16 p17, p18])]) then
 (let x0 := F_rM_top (PK [.int .u16 p17, p18])
 bif (INB p18 x0) then
 (bif (INB p18 x0) then
 (bif (INB p18 x0) then
 (let x1 := F_r6_Step (tru (CV (IX p18 x0) 11)) p8 p9 p17 p12 p13 p14 p15 p16 (num (CV (IX p18 x0) 12)) (num (CV (IX p18 x0) 13)) (num (CV (IX p18 x0) 14)) (num (CV (IX p18 x0) 15)) (num (CV (IX p18 x0) 16)) (num (CV (IX p18 x0) 17)) (num (CV (IX p18 x0) 18)) (num (CV (IX p18 x0) 19)) (num (CV (IX p18 x0) 20)) (num (CV (IX p18 x0) 21)) (num (CV (IX p18 x0) 22))
 bif x1.2.2.2.2.2.2 then
 (bif (INB p18 x0) then
 (true)
 else
 (false))
 else
 (true))
 else
 (false))
 else
 (false))
 else
 (false))
 else
 (false) := (okR_eq _).trans (by kernel_rfl)
theorem env_rM_paint : EnvOK Tryz.prog InvN ⟨[C_rM_top], []⟩ ∧ AllOK Tryz.prog InvN [S_r6_Step] := ⟨⟨(allC_cons ok_rM_top allC_nil), allL_nil⟩, (allOK_cons ok_r6_Step allOK_nil)⟩
theorem okA_rM_paint (h : ∀ p0 p1 p2 p3 p4 p5 p6 p7 p8 p9 p10 p11 p12 p13 p14 p15 p16 p17 p18, IntKind.i64.min ≤ p0 → p0 ≤ IntKind.i64.max → IntKind.i64.min ≤ p1 → p1 ≤ IntKind.i64.max → IntKind.i64.min ≤ p2 → p2 ≤ IntKind.i64.max → IntKind.i64.min ≤ p3 → p3 ≤ IntKind.i64.max → IntKind.i64.min ≤ p4 → p4 ≤ IntKind.i64.max → IntKind.i64.min ≤ p5 → p5 ≤ IntKind.i64.max → IntKind.i64.min ≤ p6 → p6 ≤ IntKind.i64.max → IntKind.u16.min ≤ p7 → p7 ≤ IntKind.u16.max → IntKind.i64.min ≤ p8 → p8 ≤ IntKind.i64.max → IntKind.i64.min ≤ p9 → p9 ≤ IntKind.i64.max → IntKind.u16.min ≤ p12 → p12 ≤ IntKind.u16.max → IntKind.u16.min ≤ p13 → p13 ≤ IntKind.u16.max → IntKind.u16.min ≤ p14 → p14 ≤ IntKind.u16.max → IntKind.u16.min ≤ p15 → p15 ≤ IntKind.u16.max → IntKind.u16.min ≤ p16 → p16 ≤ IntKind.u16.max → IntKind.u16.min ≤ p17 → p17 ≤ IntKind.u16.max → inKind (.l LV) p18 → pre_rM_paint [.int .i64 p0, .int .i64 p1, .int .i64 p2, .int .i64 p3, .int .i64 p4, .int .i64 p5, .int .i64 p6, .int .u16 p7, .int .i64 p8, .int .i64 p9, .bool p10, .bool p11, .int .u16 p12, .int .u16 p13, .int .u16 p14, .int .u16 p15, .int .u16 p16, .int .u16 p17, p18] = true → (evB ⟨[C_rM_top], []⟩ Tryz.prog [S_r6_Step] 1000 LC0_rM_paint [.int .i64 p0, .int .i64 p1, .int .i64 p2, .int .i64 p3, .int .i64 p4, .int .i64 p5, .int .i64 p6, .int .u16 p7, .int .i64 p8, .int .i64 p9, .bool p10, .bool p11, .int .u16 p12, .int .u16 p13, .int .u16 p14, .int .u16 p15, .int .u16 p16, .int .u16 p17, p18]).ok = true) : LoopTrue Tryz.prog InvN LC_rM_paint := body_true env_rM_paint.1 env_rM_paint.2 1000 LC_rM_paint rfl (fun xs => LF_rM_paint_is xs) (by
 refine kLi fun p0 p0lo p0hi => ?_
 refine kLi fun p1 p1lo p1hi => ?_
 refine kLi fun p2 p2lo p2hi => ?_
 refine kLi fun p3 p3lo p3hi => ?_
 refine kLi fun p4 p4lo p4hi => ?_
 refine kLi fun p5 p5lo p5hi => ?_
 refine kLi fun p6 p6lo p6hi => ?_
 refine kLi fun p7 p7lo p7hi => ?_
 refine kLi fun p8 p8lo p8hi => ?_
 refine kLi fun p9 p9lo p9hi => ?_
 refine kLb fun p10 => ?_
 refine kLb fun p11 => ?_
 refine kLi fun p12 p12lo p12hi => ?_
 refine kLi fun p13 p13lo p13hi => ?_
 refine kLi fun p14 p14lo p14hi => ?_
 refine kLi fun p15 p15lo p15hi => ?_
 refine kLi fun p16 p16lo p16hi => ?_
 refine kLi fun p17 p17lo p17hi => ?_
 refine kLc fun p18 p18k => ?_
 refine kLn ?_
 intro hp
 exact h p0 p1 p2 p3 p4 p5 p6 p7 p8 p9 p10 p11 p12 p13 p14 p15 p16 p17 p18 p0lo p0hi p1lo p1hi p2lo p2hi p3lo p3hi p4lo p4hi p5lo p5hi p6lo p6hi p7lo p7hi p8lo p8hi p9lo p9hi p12lo p12hi p13lo p13hi p14lo p14hi p15lo p15hi p16lo p16hi p17lo p17hi p18k hp)
theorem ok_rM_paint : LoopTrue Tryz.prog InvN LC_rM_paint := okA_rM_paint fun p0 p1 p2 p3 p4 p5 p6 p7 p8 p9 p10 p11 p12 p13 p14 p15 p16 p17 p18 _ _ _ _ _ _ _ _ _ _ _ _ _ _ _ _ _ _ _ _ _ _ _ _ _ _ _ _ _ _ _ _ _ hp => by
 have hp : lenOK p18 = true := hp
 have h1 : INB p18 (F_rM_top (PK [.int .u16 p17, p18])) = true := by rw [F_rM_top_eq]; exact lenOK.last hp
 rw [okB_rM_paint]
 repeat' (first | with_reducible rfl | refine bif_ok (fun h => ?_) (fun h => ?_))
 all_goals first | exact bool_no h1 h | exact bool_no (c := true) rfl h
def head_rM_Push : Shp := ⟨[.p (.c (.p 0 0)), .p (.agg [.h (.i .i64), .h (.i .i64), .h (.i .i64), .h (.i .i64), .h (.i .i64), .h (.i .i64), .h (.i .i64), .h (.i .u16), .h (.i .i64), .h (.i .i64), .h (.b), .h (.b)])], [(0, ⟨[.h (.i .u16), .ar 1 LV 67], 70, true, none⟩), (1, ⟨[], 67, true, some LV⟩)]⟩
def outs_rM_Push : List (Xt × Shp × Nat) := [(.ret, ⟨[.p (.c (.h (.i .i64))), .p (.c (.p 0 0))], [(0, ⟨[.h (.i .u16), .ar 1 LV 67], 70, true, none⟩), (1, ⟨[], 67, true, some LV⟩)]⟩, 2)]
def LC0_rM_Push : LoopC := ⟨23, 99999, fun _ => [], fun _ => true, 2, head_rM_Push, outs_rM_Push⟩
noncomputable def LF_rM_Push : List Value → List Value := Classical.choose (veil fun vs => (evB ⟨[C_rM_top, C_rM_Depth], []⟩ Tryz.prog [S_r6_Begin] 1000 LC0_rM_Push vs).outL)
theorem LF_rM_Push_is (vs : List Value) : LF_rM_Push vs = (evB ⟨[C_rM_top, C_rM_Depth], []⟩ Tryz.prog [S_r6_Begin] 1000 LC0_rM_Push vs).outL := Classical.choose_spec (veil _) vs
def pre_rM_Push : List Value → Bool := fun vs => lenOK (vs.getD 13 undef)
noncomputable def LC_rM_Push : LoopC := ⟨23, 99999, LF_rM_Push, pre_rM_Push, 2, head_rM_Push, outs_rM_Push⟩
noncomputable def OUT_rM_Push (p0 p1 p2 p3 p4 p5 p6 p7 p8 p9 : Int) (p10 p11 : Bool) (p12 : Int) (p13 : Value) : List Value :=
 bif (p0 != 2) then
 ([.int .i64 0, .int .i64 20, .int .u16 p12, p13])
 else
 (bif (pre_rM_Depth [(PK [.int .u16 p12, p13])]) then
 (let x0 := F_rM_Depth (PK [.int .u16 p12, p13])
 bif (decide (x0 ≥ 64)) then
 ([.int .i64 0, .int .i64 17, .int .u16 p12, p13])
 else
 (bif (pre_rM_top [(PK [.int .u16 p12, p13])]) then
 (let x1 := F_rM_top (PK [.int .u16 p12, p13])
 bif (INB p13 x1) then
 (bif (RO 112 (CT NILV p13)) then
 (let x2 := F_r6_Begin p10 (tru (CV (IX p13 x1) 11)) (num (CV (IX p13 x1) 12)) (num (CV (IX p13 x1) 13)) (num (CV (IX p13 x1) 14)) (num (CV (IX p13 x1) 15)) (num (CV (IX p13 x1) 16)) (num (CV (IX p13 x1) 17)) (num (CV (IX p13 x1) 18)) (num (CV (IX p13 x1) 19)) (num (CV (IX p13 x1) 20)) (num (CV (IX p13 x1) 21)) (num (CV (IX p13 x1) 22))
 bif (RO 112 (SN (CT NILV p13) [.int .i64 p0, .int .i64 p1, .int .i64 p2, .int .i64 p3, .int .i64 p4, .int .i64 p5, .int .i64 p6, .int .u16 p7, .int .i64 p8, .int .i64 p9, .bool p10, .bool p11, .int .u16 x2.1, .int .u16 x2.2.1, .int .u16 x2.2.2.1, .int .u16 x2.2.2.2.1, .int .u16 x2.2.2.2.2.1, .int .u16 x2.2.2.2.2.2.1, .int .u16 x2.2.2.2.2.2.2.1, .int .u16 x2.2.2.2.2.2.2.2.1, .int .u16 x2.2.2.2.2.2.2.2.2.1, .int .u16 x2.2.2.2.2.2.2.2.2.2.1, .int .u16 x2.2.2.2.2.2.2.2.2.2.2])) then
 ([.int .i64 0, .int .i64 0, .int .u16 p12, (SN (CT NILV p13) [.int .i64 p0, .int .i64 p1, .int .i64 p2, .int .i64 p3, .int .i64 p4, .int .i64 p5, .int .i64 p6, .int .u16 p7, .int .i64 p8, .int .i64 p9, .bool p10, .bool p11, .int .u16 x2.1, .int .u16 x2.2.1, .int .u16 x2.2.2.1, .int .u16 x2.2.2.2.1, .int .u16 x2.2.2.2.2.1, .int .u16 x2.2.2.2.2.2.1, .int .u16 x2.2.2.2.2.2.2.1, .int .u16 x2.2.2.2.2.2.2.2.1, .int .u16 x2.2.2.2.2.2.2.2.2.1, .int .u16 x2.2.2.2.2.2.2.2.2.2.1, .int .u16 x2.2.2.2.2.2.2.2.2.2.2])])
 else
 ([]))
 else
 ([]))
 else
 ([]))
 else
 ([])))
 else
 ([]))
theorem LF_rM_Push_eq (p0 p1 p2 p3 p4 p5 p6 p7 p8 p9 : Int) (p10 p11 : Bool) (p12 : Int) (p13 : Value) : LF_rM_Push [.int .i64 p0, .int .i64 p1, .int .i64 p2, .int .i64 p3, .int .i64 p4, .int .i64 p5, .int .i64 p6, .int .u16 p7, .int .i64 p8, .int .i64 p9, .bool p10, .bool p11, .int .u16 p12, p13] = OUT_rM_Push p0 p1 p2 p3 p4 p5 p6 p7 p8 p9 p10 p11 p12 p13 := (LF_rM_Push_is _).trans ((fold_eq (fun l => l) _).trans (by kernel_rfl))
theorem okB_rM_Push (p0 p1 p2 p3 p4 p5 p6 p7 p8 p9 : Int) (p10 p11 : Bool) (p12 : Int) (p13 : Value) : (evB ⟨[C_rM_top, C_rM_Depth], []⟩ Tryz.prog [S_r6_Begin] 1000 LC0_rM_Push [.int .i64 p0, .int .i64 p1, .int .i64 p2, .int .i64 p3, .int .i64 p4, .int .i64 p5, .int .i64 p6, .int .u16 p7, .int .i64 p8, .int .i64 p9, .bool p10, .bool p11, .int .u16 p12, p13]).ok =
 bif (p0 != 2) then
 (true)
 else
 (bif (pre_rM_Depth [(PK [.int .u16 p12, p13])]) then
 (let x0 := F_rM_Depth (PK [.int .u16 p12, p13])
 bif (decide (x0 ≥ 64)) then
 (true)
 else
 (bif (pre_rM_top [(PK [.int .u16 p12, p13])]) then
 (let x1 := F_rM_top (PK [.int .u16 p12, p13])
 bif (INB p13 x1) then
 (bif (RO 112 (CT NILV p13)) then
 (let x2 := F_r6_Begin p10 (tru (CV (IX p13 x1) 11)) (num (CV (IX p13 x1) 12)) (num (CV (IX p13 x1) 13)) (num (CV (IX p13 x1) 14)) (num (CV (IX p13 x1) 15)) (num (CV (IX p13 x1) 16)) (num (CV (IX p13 x1) 17)) (num (CV (IX p13 x1) 18)) (num (CV (IX p13 x1) 19)) (num (CV (IX p13 x1) 20)) (num (CV (IX p13 x1) 21)) (num (CV (IX p13 x1) 22))
 bif (RO 112 (SN (CT NILV p13) [.int .i64 p0, .int .i64 p1, .int .i64 p2, .int .i64 p3, .int .i64 p4, .int .i64 p5, .int .i64 p6, .int .u16 p7, .int .i64 p8, .int .i64 p9, .bool p10, .bool p11, .int .u16 x2.1, .int .u16 x2.2.1, .int .u16 x2.2.2.1, .int .u16 x2.2.2.2.1, .int .u16 x2.2.2.2.2.1, .int .u16 x2.2.2.2.2.2.1, .int .u16 x2.2.2.2.2.2.2.1, .int .u16 x2.2.2.2.2.2.2.2.1, .int .u16 x2.2.2.2.2.2.2.2.2.1, .int .u16 x2.2.2.2.2.2.2.2.2.2.1, .int .u16 x2.2.2.2.2.2.2.2.2.2.2])) then
 (true)
 else
 (false))
 else
 (false))
 else
 (false))
 else
 (false)))
 else
 (false)) := (okR_eq _).trans (by kernel_rfl)
theorem env_rM_Push : EnvOK Tryz.prog InvN ⟨[C_rM_top, C_rM_Depth], []⟩ ∧ AllOK Tryz.prog InvN [S_r6_Begin] := ⟨⟨(allC_cons ok_rM_top (allC_cons ok_rM_Depth allC_nil)), allL_nil⟩, (allOK_cons ok_r6_Begin allOK_nil)⟩
theorem okA_rM_Push (h : ∀ p0 p1 p2 p3 p4 p5 p6 p7 p8 p9 p10 p11 p12 p13, IntKind.i64.min ≤ p0 → p0 ≤ IntKind.i64.max → IntKind.i64.min ≤ p1 → p1 ≤ IntKind.i64.max → IntKind.i64.min ≤ p2 → p2 ≤ IntKind.i64.max → IntKind.i64.min ≤ p3 → p3 ≤ IntKind.i64.max → IntKind.i64.min ≤ p4 → p4 ≤ IntKind.i64.max → IntKind.i64.min ≤ p5 → p5 ≤ IntKind.i64.max → IntKind.i64.min ≤ p6 → p6 ≤ IntKind.i64.max → IntKind.u16.min ≤ p7 → p7 ≤ IntKind.u16.max → IntKind.i64.min ≤ p8 → p8 ≤ IntKind.i64.max → IntKind.i64.min ≤ p9 → p9 ≤ IntKind.i64.max → IntKind.u16.min ≤ p12 → p12 ≤ IntKind.u16.max → inKind (.l LV) p13 → pre_rM_Push [.int .i64 p0, .int .i64 p1, .int .i64 p2, .int .i64 p3, .int .i64 p4, .int .i64 p5, .int .i64 p6, .int .u16 p7, .int .i64 p8, .int .i64 p9, .bool p10, .bool p11, .int .u16 p12, p13] = true → (evB ⟨[C_rM_top, C_rM_Depth], []⟩ Tryz.prog [S_r6_Begin] 1000 LC0_rM_Push [.int .i64 p0, .int .i64 p1, .int .i64 p2, .int .i64 p3, .int .i64 p4, .int .i64 p5, .int .i64 p6, .int .u16 p7, .int .i64 p8, .int .i64 p9, .bool p10, .bool p11, .int .u16 p12, p13]).ok = true) : LoopTrue Tryz.prog InvN LC_rM_Push := body_true env_rM_Push.1 env_rM_Push.2 1000 LC_rM_Push rfl (fun xs => LF_rM_Push_is xs) (by
 refine kLi fun p0 p0lo p0hi => ?_
 refine kLi fun p1 p1lo p1hi => ?_
 refine kLi fun p2 p2lo p2hi => ?_
 refine kLi fun p3 p3lo p3hi => ?_
 refine kLi fun p4 p4lo p4hi => ?_
 refine kLi fun p5 p5lo p5hi => ?_
 refine kLi fun p6 p6lo p6hi => ?_
 refine kLi fun p7 p7lo p7hi => ?_
 refine kLi fun p8 p8lo p8hi => ?_
 refine kLi fun p9 p9lo p9hi => ?_
 refine kLb fun p10 => ?_
 refine kLb fun p11 => ?_
 refine kLi fun p12 p12lo p12hi => ?_
 refine kLc fun p13 p13k => ?_
 refine kLn ?_
 intro hp
 exact h p0 p1 p2 p3 p4 p5 p6 p7 p8 p9 p10 p11 p12 p13 p0lo p0hi p1lo p1hi p2lo p2hi p3lo p3hi p4lo p4hi p5lo p5hi p6lo p6hi p7lo p7hi p8lo p8hi p9lo p9hi p12lo p12hi p13k hp)
theorem ok_rM_Push : LoopTrue Tryz.prog InvN LC_rM_Push := okA_rM_Push fun p0 p1 p2 p3 p4 p5 p6 p7 p8 p9 p10 p11 p12 p13 _ _ _ _ _ _ _ _ _ _ _ _ _ _ _ _ _ _ _ _ _ _ _ hp => by
 have hp : lenOK p13 = true := hp
 have h1 : INB p13 (F_rM_top (PK [.int .u16 p12, p13])) = true := by rw [F_rM_top_eq]; exact lenOK.last hp
 rw [okB_rM_Push]
 repeat' (first | with_reducible rfl | refine bif_ok (fun h => ?_) (fun h => ?_))
 all_goals first | exact bool_no h1 h | exact bool_no (lenOK.clone hp) h | exact bool_no (lenOK.snoc hp _) h | exact bool_no (c := true) rfl h
def head_rM_Draw : Shp := ⟨[.p (.c (.p 0 0)), .p (.agg [.h (.i .i64), .h (.i .i64), .h (.i .i64), .h (.i .i64), .h (.i .i64), .h (.i .i64), .h (.i .i64), .h (.i .u16), .h (.i .i64), .h (.i .i64), .h (.b), .h (.b)]), .p (.agg [.h (.i .u16), .h (.i .u16), .h (.i .u16), .h (.i .u16), .h (.i .u16)]), .p (.c (.h (.i .u16)))], [(0, ⟨[.h (.i .u16), .ar 1 LV 67], 70, true, none⟩), (1, ⟨[], 67, true, some LV⟩)]⟩
def outs_rM_Draw : List (Xt × Shp × Nat) := [(.ret, ⟨[.tup [.agg [.h (.i .u16), .h (.i .u16), .h (.i .u16), .h (.i .u16), .h (.i .u16)], .c (.h (.i .i64))], .p (.c (.p 0 0))], [(0, ⟨[.h (.i .u16), .ar 1 LV 67], 70, true, none⟩), (1, ⟨[], 67, true, some LV⟩)]⟩, 2)]
def LC0_rM_Draw : LoopC := ⟨26, 99999, fun _ => [], fun _ => true, 2, head_rM_Draw, outs_rM_Draw⟩
noncomputable def LF_rM_Draw : List Value → List Value := Classical.choose (veil fun vs => (evB ⟨[], [LC_rM_paint]⟩ Tryz.prog [S_r2_scaled] 1000 LC0_rM_Draw vs).outL)
theorem LF_rM_Draw_is (vs : List Value) : LF_rM_Draw vs = (evB ⟨[], [LC_rM_paint]⟩ Tryz.prog [S_r2_scaled] 1000 LC0_rM_Draw vs).outL := Classical.choose_spec (veil _) vs
def pre_rM_Draw : List Value → Bool := fun vs => lenOK (vs.getD 19 undef)
noncomputable def LC_rM_Draw : LoopC := ⟨26, 99999, LF_rM_Draw, pre_rM_Draw, 2, head_rM_Draw, outs_rM_Draw⟩
noncomputable def OUT_rM_Draw (p0 p1 p2 p3 p4 p5 p6 p7 p8 p9 : Int) (p10 p11 : Bool) (p12 p13 p14 p15 p16 p17 p18 : Int) (p19 : Value) : List Value :=
 bif (p0 != 1) then
 ([.int .i64 0, .int .u16 0, .int .u16 0, .int .u16 0, .int .u16 0, .int .u16 0, .int .i64 20, .int .u16 p18, p19])
 else
 (let x0 := F_r2_scaled p0 p1 p2 p3 p4 p5 p6 p7 p8 p9 p10 p11 p12 p13 p14 p15 p16 p17 p18
 bif (!x0.2.2.2.2.2) then
 ([.int .i64 0, .int .u16 0, .int .u16 0, .int .u16 0, .int .u16 0, .int .u16 0, .int .i64 20, .int .u16 p18, p19])
 else
 (bif (pre_rM_paint [.int .i64 p0, .int .i64 p1, .int .i64 p2, .int .i64 p3, .int .i64 p4, .int .i64 p5, .int .i64 p6, .int .u16 p7, .int .i64 p8, .int .i64 p9, .bool p10, .bool p11, .int .u16 x0.1, .int .u16 x0.2.1, .int .u16 x0.2.2.1, .int .u16 x0.2.2.2.1, .int .u16 x0.2.2.2.2.1, .int .u16 p18, p19]) then
 (let x1 := LF_rM_paint [.int .i64 p0, .int .i64 p1, .int .i64 p2, .int .i64 p3, .int .i64 p4, .int .i64 p5, .int .i64 p6, .int .u16 p7, .int .i64 p8, .int .i64 p9, .bool p10, .bool p11, .int .u16 x0.1, .int .u16 x0.2.1, .int .u16 x0.2.2.1, .int .u16 x0.2.2.2.1, .int .u16 x0.2.2.2.2.1, .int .u16 p18, p19]
 bif (!(tru (x1.getD 1 undef))) then
 ([.int .i64 0, .int .u16 0, .int .u16 0, .int .u16 0, .int .u16 0, .int .u16 0, .int .i64 16, .int .u16 (num (x1.getD 2 undef)), (x1.getD 3 undef)])
 else
 ([.int .i64 0, .int .u16 x0.1, .int .u16 x0.2.1, .int .u16 x0.2.2.1, .int .u16 x0.2.2.2.1, .int .u16 x0.2.2.2.2.1, .int .i64 0, .int .u16 (num (x1.getD 2 undef)), (x1.getD 3 undef)]))
 else
 ([])))
theorem LF_rM_Draw_eq (p0 p1 p2 p3 p4 p5 p6 p7 p8 p9 : Int) (p10 p11 : Bool) (p12 p13 p14 p15 p16 p17 p18 : Int) (p19 : Value) : LF_rM_Draw [.int .i64 p0, .int .i64 p1, .int .i64 p2, .int .i64 p3, .int .i64 p4, .int .i64 p5, .int .i64 p6, .int .u16 p7, .int .i64 p8, .int .i64 p9, .bool p10, .bool p11, .int .u16 p12, .int .u16 p13, .int .u16 p14, .int .u16 p15, .int .u16 p16, .int .u16 p17, .int .u16 p18, p19] = OUT_rM_Draw p0 p1 p2 p3 p4 p5 p6 p7 p8 p9 p10 p11 p12 p13 p14 p15 p16 p17 p18 p19 := (LF_rM_Draw_is _).trans ((fold_eq (fun l => l) _).trans (by kernel_rfl))
theorem okB_rM_Draw (p0 p1 p2 p3 p4 p5 p6 p7 p8 p9 : Int) (p10 p11 : Bool) (p12 p13 p14 p15 p16 p17 p18 : Int) (p19 : Value) : (evB ⟨[], [LC_rM_paint]⟩ Tryz.prog [S_r2_scaled] 1000 LC0_rM_Draw [.int .i64 p0, .int .i64 p1, .int .i64 p2, .int .i64 p3, .int .i64 p4, .int .i64 p5, .int .i64 p6, .int .u16 p7, .int .i64 p8, .int .i64 p9, .bool p10, .bool p11, .int .u16 p12, .int .u16 p13, .int .u16 p14, .int .u16 p15, .int .u16 p16, .int .u16 p17, .int .u16 p18, p19]).ok =
 bif (p0 != 1) then
 (true)
 else
 (let x0 := F_r2_scaled p0 p1 p2 p3 p4 p5 p6 p7 p8 p9 p10 p11 p12 p13 p14 p15 p16 p17 p18
 bif (!x0.2.2.2.2.2) then
 (true)
 else
 (bif (pre_rM_paint [.int .i64 p0, .int .i64 p1, .int .i64 p2, .int .i64 p3, .int .i64 p4, .int .i64 p5, .int .i64 p6, .int .u16 p7, .int .i64 p8, .int .i64 p9, .bool p10, .bool p11, .int .u16 x0.1, .int .u16 x0.2.1, .int .u16 x0.2.2.1, .int .u16 x0.2.2.2.1, .int .u16 x0.2.2.2.2.1, .int .u16 p18, p19]) then
 (true)
 else
 (false))) := (okR_eq _).trans (by kernel_rfl)
theorem env_rM_Draw : EnvOK Tryz.prog InvN ⟨[], [LC_rM_paint]⟩ ∧ AllOK Tryz.prog InvN [S_r2_scaled] := ⟨⟨allC_nil, (allL_cons ok_rM_paint allL_nil)⟩, (allOK_cons ok_r2_scaled allOK_nil)⟩
theorem okA_rM_Draw (h : ∀ p0 p1 p2 p3 p4 p5 p6 p7 p8 p9 p10 p11 p12 p13 p14 p15 p16 p17 p18 p19, IntKind.i64.min ≤ p0 → p0 ≤ IntKind.i64.max → IntKind.i64.min ≤ p1 → p1 ≤ IntKind.i64.max → IntKind.i64.min ≤ p2 → p2 ≤ IntKind.i64.max → IntKind.i64.min ≤ p3 → p3 ≤ IntKind.i64.max → IntKind.i64.min ≤ p4 → p4 ≤ IntKind.i64.max → IntKind.i64.min ≤ p5 → p5 ≤ IntKind.i64.max → IntKind.i64.min ≤ p6 → p6 ≤ IntKind.i64.max → IntKind.u16.min ≤ p7 → p7 ≤ IntKind.u16.max → IntKind.i64.min ≤ p8 → p8 ≤ IntKind.i64.max → IntKind.i64.min ≤ p9 → p9 ≤ IntKind.i64.max → IntKind.u16.min ≤ p12 → p12 ≤ IntKind.u16.max → IntKind.u16.min ≤ p13 → p13 ≤ IntKind.u16.max → IntKind.u16.min ≤ p14 → p14 ≤ IntKind.u16.max → IntKind.u16.min ≤ p15 → p15 ≤ IntKind.u16.max → IntKind.u16.min ≤ p16 → p16 ≤ IntKind.u16.max → IntKind.u16.min ≤ p17 → p17 ≤ IntKind.u16.max → IntKind.u16.min ≤ p18 → p18 ≤ IntKind.u16.max → inKind (.l LV) p19 → pre_rM_Draw [.int .i64 p0, .int .i64 p1, .int .i64 p2, .int .i64 p3, .int .i64 p4, .int .i64 p5, .int .i64 p6, .int .u16 p7, .int .i64 p8, .int .i64 p9, .bool p10, .bool p11, .int .u16 p12, .int .u16 p13, .int .u16 p14, .int .u16 p15, .int .u16 p16, .int .u16 p17, .int .u16 p18, p19] = true → (evB ⟨[], [LC_rM_paint]⟩ Tryz.prog [S_r2_scaled] 1000 LC0_rM_Draw [.int .i64 p0, .int .i64 p1, .int .i64 p2, .int .i64 p3, .int .i64 p4, .int .i64 p5, .int .i64 p6, .int .u16 p7, .int .i64 p8, .int .i64 p9, .bool p10, .bool p11, .int .u16 p12, .int .u16 p13, .int .u16 p14, .int .u16 p15, .int .u16 p16, .int .u16 p17, .int .u16 p18, p19]).ok = true) : LoopTrue Tryz.prog InvN LC_rM_Draw := body_true env_rM_Draw.1 env_rM_Draw.2 1000 LC_rM_Draw rfl (fun xs => LF_rM_Draw_is xs) (by
 refine kLi fun p0 p0lo p0hi => ?_
 refine kLi fun p1 p1lo p1hi => ?_
 refine kLi fun p2 p2lo p2hi => ?_
 refine kLi fun p3 p3lo p3hi => ?_
 refine kLi fun p4 p4lo p4hi => ?_
 refine kLi fun p5 p5lo p5hi => ?_
 refine kLi fun p6 p6lo p6hi => ?_
 refine kLi fun p7 p7lo p7hi => ?_
 refine kLi fun p8 p8lo p8hi => ?_
 refine kLi fun p9 p9lo p9hi => ?_
 refine kLb fun p10 => ?_
 refine kLb fun p11 => ?_
 refine kLi fun p12 p12lo p12hi => ?_
 refine kLi fun p13 p13lo p13hi => ?_
 refine kLi fun p14 p14lo p14hi => ?_
 refine kLi fun p15 p15lo p15hi => ?_
 refine kLi fun p16 p16lo p16hi => ?_
 refine kLi fun p17 p17lo p17hi => ?_
 refine kLi fun p18 p18lo p18hi => ?_
 refine kLc fun p19 p19k => ?_
 refine kLn ?_
 intro hp
 exact h p0 p1 p2 p3 p4 p5 p6 p7 p8 p9 p10 p11 p12 p13 p14 p15 p16 p17 p18 p19 p0lo p0hi p1lo p1hi p2lo p2hi p3lo p3hi p4lo p4hi p5lo p5hi p6lo p6hi p7lo p7hi p8lo p8hi p9lo p9hi p12lo p12hi p13lo p13hi p14lo p14hi p15lo p15hi p16lo p16hi p17lo p17hi p18lo p18hi p19k hp)
theorem ok_rM_Draw : LoopTrue Tryz.prog InvN LC_rM_Draw := okA_rM_Draw fun p0 p1 p2 p3 p4 p5 p6 p7 p8 p9 p10 p11 p12 p13 p14 p15 p16 p17 p18 p19 _ _ _ _ _ _ _ _ _ _ _ _ _ _ _ _ _ _ _ _ _ _ _ _ _ _ _ _ _ _ _ _ _ _ _ hp => by
 have hp : lenOK p19 = true := hp
 rw [okB_rM_Draw]
 repeat' (first | with_reducible rfl | refine bif_ok (fun h => ?_) (fun h => ?_))
 all_goals first | exact bool_no hp h
theorem rpaint_len {p0 p1 p2 p3 p4 p5 p6 p7 p8 p9 : Int} {p10 p11 : Bool} {p12 p13 p14 p15 p16 p17 : Int} {p18 : Value} (hp : lenOK p18 = true) : ∃ (b : Bool) (L : Value), LF_rM_paint [.int .i64 p0, .int .i64 p1, .int .i64 p2, .int .i64 p3, .int .i64 p4, .int .i64 p5, .int .i64 p6, .int .u16 p7, .int .i64 p8, .int .i64 p9, .bool p10, .bool p11, .int .u16 p12, .int .u16 p13, .int .u16 p14, .int .u16 p15, .int .u16 p16, .int .u16 p17, p18] = [.int .i64 0, .bool b, .int .u16 p17, L] ∧ LN L = LN p18 := by
 have h1 : INB p18 (F_rM_top (PK [.int .u16 p17, p18])) = true := by rw [F_rM_top_eq]; exact lenOK.last hp
 have h2 : pre_rM_top [(PK [.int .u16 p17, p18])] = true := rfl
 rw [LF_rM_paint_eq]
 unfold OUT_rM_paint
 simp only [h1, h2, cond_true]
 exact bifP (p := fun o => ∃ (b : Bool) (L : Value), o = [.int .i64 0, .bool b, .int .u16 p17, L] ∧ LN L = LN p18) (fun _ => ⟨_, _, rfl, LN_ST _ _ _ _⟩) (fun _ => ⟨_, _, rfl, rfl⟩)
theorem draw_ok {p0 p1 p2 p3 p4 p5 p6 p7 p8 p9 : Int} {p10 p11 : Bool} {p12 p13 p14 p15 p16 p17 p18 : Int} {p19 : Value} (hp : lenOK p19 = true) : lenOK ((LF_fM_Draw [.int .i64 p0, .int .i64 p1, .int .i64 p2, .int .i64 p3, .int .i64 p4, .int .i64 p5, .int .i64 p6, .int .u16 p7, .int .i64 p8, .int .i64 p9, .bool p10, .bool p11, .int .u16 p12, .int .u16 p13, .int .u16 p14, .int .u16 p15, .int .u16 p16, .int .u16 p17, .int .u16 p18, p19]).getD 8 undef) = true := by
 obtain ⟨a, b, c, d, f, e, L, h, l⟩ := draw_len p0 p1 p2 p3 p4 p5 p6 p7 p8 p9 p10 p11 p12 p13 p14 p15 p16 p17 p18 p19 hp
 rw [h]
 have := lenOK.b hp
 exact lenOK.of (by show 1 ≤ LN L; omega) (by show LN L ≤ 1000; omega)
theorem rdraw_ok {p0 p1 p2 p3 p4 p5 p6 p7 p8 p9 : Int} {p10 p11 : Bool} {p12 p13 p14 p15 p16 p17 p18 : Int} {p19 : Value} (hp : lenOK p19 = true) : lenOK ((LF_rM_Draw [.int .i64 p0, .int .i64 p1, .int .i64 p2, .int .i64 p3, .int .i64 p4, .int .i64 p5, .int .i64 p6, .int .u16 p7, .int .i64 p8, .int .i64 p9, .bool p10, .bool p11, .int .u16 p12, .int .u16 p13, .int .u16 p14, .int .u16 p15, .int .u16 p16, .int .u16 p17, .int .u16 p18, p19]).getD 8 undef) = true := by
 rw [LF_rM_Draw_eq]
 unfold OUT_rM_Draw
 refine bifP (p := fun o => lenOK (List.getD o 8 undef) = true) (fun _ => hp) fun _ => ?_
 dsimp only
 refine bifP (p := fun o => lenOK (List.getD o 8 undef) = true) (fun _ => hp) fun _ => bifP (p := fun o => lenOK (List.getD o 8 undef) = true) (fun _ => ?_) (fun h => bool_no (c := lenOK p19) hp h)
 generalize F_r2_scaled p0 p1 p2 p3 p4 p5 p6 p7 p8 p9 p10 p11 p12 p13 p14 p15 p16 p17 p18 = x
 obtain ⟨b, L, h, l⟩ := rpaint_len (p0 := p0) (p1 := p1) (p2 := p2) (p3 := p3) (p4 := p4) (p5 := p5) (p6 := p6) (p7 := p7) (p8 := p8) (p9 := p9) (p10 := p10) (p11 := p11) (p12 := x.1) (p13 := x.2.1) (p14 := x.2.2.1) (p15 := x.2.2.2.1) (p16 := x.2.2.2.2.1) (p17 := p18) hp
 rw [h]
 have := lenOK.b hp
 have q : lenOK L = true := lenOK.of (by omega) (by omega)
 exact bifP (p := fun o => lenOK (List.getD o 8 undef) = true) (fun _ => q) (fun _ => q)
def head_rM_Pop : Shp := ⟨[.p (.c (.p 0 0)), .p (.c (.h (.i .u16)))], [(0, ⟨[.h (.i .u16), .ar 1 LV 67], 70, true, none⟩), (1, ⟨[], 67, true, some LV⟩)]⟩
def outs_rM_Pop : List (Xt × Shp × Nat) := [(.ret, ⟨[.tup [.agg [.h (.i .u16), .h (.i .u16), .h (.i .u16), .h (.i .u16), .h (.i .u16)], .c (.h (.i .i64))], .p (.c (.p 0 0))], [(0, ⟨[.h (.i .u16), .ar 1 LV 67], 70, true, none⟩), (1, ⟨[], 67, true, some LV⟩)]⟩, 2)]
def LC0_rM_Pop : LoopC := ⟨25, 99999, fun _ => [], fun _ => true, 2, head_rM_Pop, outs_rM_Pop⟩
noncomputable def LF_rM_Pop : List Value → List Value := Classical.choose (veil fun vs => (evB ⟨[C_rM_top, C_rM_Depth], [LC_rM_paint]⟩ Tryz.prog [S_r6_Result, S_r2_scaled] 1000 LC0_rM_Pop vs).outL)
theorem LF_rM_Pop_is (vs : List Value) : LF_rM_Pop vs = (evB ⟨[C_rM_top, C_rM_Depth], [LC_rM_paint]⟩ Tryz.prog [S_r6_Result, S_r2_scaled] 1000 LC0_rM_Pop vs).outL := Classical.choose_spec (veil _) vs
def pre_rM_Pop : List Value → Bool := fun vs => lenOK (vs.getD 2 undef)
noncomputable def LC_rM_Pop : LoopC := ⟨25, 99999, LF_rM_Pop, pre_rM_Pop, 2, head_rM_Pop, outs_rM_Pop⟩
noncomputable def OUT_rM_Pop (p0 p1 : Int) (p2 : Value) : List Value :=
 bif (pre_rM_Depth [(PK [.int .u16 p1, p2])]) then
 (let x0 := F_rM_Depth (PK [.int .u16 p1, p2])
 bif (x0 == 0) then
 ([.int .i64 0, .int .u16 0, .int .u16 0, .int .u16 0, .int .u16 0, .int .u16 0, .int .i64 18, .int .u16 p1, p2])
 else
 (bif (pre_rM_top [(PK [.int .u16 p1, p2])]) then
 (let x1 := F_rM_top (PK [.int .u16 p1, p2])
 bif (INB p2 x1) then
 (let x2 := F_r6_Result (num (CV (IX p2 x1) 12)) (num (CV (IX p2 x1) 13)) (num (CV (IX p2 x1) 14)) (num (CV (IX p2 x1) 15)) (num (CV (IX p2 x1) 16)) (num (CV (IX p2 x1) 17)) (num (CV (IX p2 x1) 18)) (num (CV (IX p2 x1) 19)) (num (CV (IX p2 x1) 20)) (num (CV (IX p2 x1) 21)) (num (CV (IX p2 x1) 22)) p1
 bif (!x2.2.2.2.2.2) then
 (let x3 := F_r2_scaled (num (CV (IX p2 x1) 0)) (num (CV (IX p2 x1) 1)) (num (CV (IX p2 x1) 2)) (num (CV (IX p2 x1) 3)) (num (CV (IX p2 x1) 4)) (num (CV (IX p2 x1) 5)) (num (CV (IX p2 x1) 6)) (num (CV (IX p2 x1) 7)) (num (CV (IX p2 x1) 8)) (num (CV (IX p2 x1) 9)) (tru (CV (IX p2 x1) 10)) (tru (CV (IX p2 x1) 11)) 0 0 0 0 0 p0 p1
 bif (!x3.2.2.2.2.2) then
 ([.int .i64 0, .int .u16 0, .int .u16 0, .int .u16 0, .int .u16 0, .int .u16 0, .int .i64 20, .int .u16 p1, p2])
 else
 (bif (pre_rM_top [(PK [.int .u16 p1, p2])]) then
 (bif (TKB p2 x1) then
 (bif (RO 112 (CT NILV (TK p2 x1))) then
 (bif (!x2.2.2.2.2.2) then
 ([.int .i64 0, .int .u16 0, .int .u16 0, .int .u16 0, .int .u16 0, .int .u16 0, .int .i64 16, .int .u16 p1, p2])
 else
 (bif (pre_rM_paint [.int .i64 (num (CV (IX p2 x1) 0)), .int .i64 (num (CV (IX p2 x1) 1)), .int .i64 (num (CV (IX p2 x1) 2)), .int .i64 (num (CV (IX p2 x1) 3)), .int .i64 (num (CV (IX p2 x1) 4)), .int .i64 (num (CV (IX p2 x1) 5)), .int .i64 (num (CV (IX p2 x1) 6)), .int .u16 (num (CV (IX p2 x1) 7)), .int .i64 (num (CV (IX p2 x1) 8)), .int .i64 (num (CV (IX p2 x1) 9)), .bool (tru (CV (IX p2 x1) 10)), .bool (tru (CV (IX p2 x1) 11)), .int .u16 x3.1, .int .u16 x3.2.1, .int .u16 x3.2.2.1, .int .u16 x3.2.2.2.1, .int .u16 x3.2.2.2.2.1, .int .u16 p1, (CT NILV (TK p2 x1))]) then
 (let x4 := LF_rM_paint [.int .i64 (num (CV (IX p2 x1) 0)), .int .i64 (num (CV (IX p2 x1) 1)), .int .i64 (num (CV (IX p2 x1) 2)), .int .i64 (num (CV (IX p2 x1) 3)), .int .i64 (num (CV (IX p2 x1) 4)), .int .i64 (num (CV (IX p2 x1) 5)), .int .i64 (num (CV (IX p2 x1) 6)), .int .u16 (num (CV (IX p2 x1) 7)), .int .i64 (num (CV (IX p2 x1) 8)), .int .i64 (num (CV (IX p2 x1) 9)), .bool (tru (CV (IX p2 x1) 10)), .bool (tru (CV (IX p2 x1) 11)), .int .u16 x3.1, .int .u16 x3.2.1, .int .u16 x3.2.2.1, .int .u16 x3.2.2.2.1, .int .u16 x3.2.2.2.2.1, .int .u16 p1, (CT NILV (TK p2 x1))]
 bif (!(tru (x4.getD 1 undef))) then
 ([.int .i64 0, .int .u16 0, .int .u16 0, .int .u16 0, .int .u16 0, .int .u16 0, .int .i64 16, .int .u16 p1, p2])
 else
 ([.int .i64 0, .int .u16 x3.1, .int .u16 x3.2.1, .int .u16 x3.2.2.1, .int .u16 x3.2.2.2.1, .int .u16 x3.2.2.2.2.1, .int .i64 0, .int .u16 p1, (x4.getD 3 undef)]))
 else
 ([])))
 else
 ([]))
 else
 ([]))
 else
 ([])))
 else
 (let x5 := F_r2_scaled (num (CV (IX p2 x1) 0)) (num (CV (IX p2 x1) 1)) (num (CV (IX p2 x1) 2)) (num (CV (IX p2 x1) 3)) (num (CV (IX p2 x1) 4)) (num (CV (IX p2 x1) 5)) (num (CV (IX p2 x1) 6)) (num (CV (IX p2 x1) 7)) (num (CV (IX p2 x1) 8)) (num (CV (IX p2 x1) 9)) (tru (CV (IX p2 x1) 10)) (tru (CV (IX p2 x1) 11)) x2.1 x2.2.1 x2.2.2.1 x2.2.2.2.1 x2.2.2.2.2.1 p0 p1
 bif (!x5.2.2.2.2.2) then
 ([.int .i64 0, .int .u16 0, .int .u16 0, .int .u16 0, .int .u16 0, .int .u16 0, .int .i64 20, .int .u16 p1, p2])
 else
 (bif (pre_rM_top [(PK [.int .u16 p1, p2])]) then
 (bif (TKB p2 x1) then
 (bif (RO 112 (CT NILV (TK p2 x1))) then
 (bif (!x2.2.2.2.2.2) then
 ([.int .i64 0, .int .u16 0, .int .u16 0, .int .u16 0, .int .u16 0, .int .u16 0, .int .i64 16, .int .u16 p1, p2])
 else
 (bif (pre_rM_paint [.int .i64 (num (CV (IX p2 x1) 0)), .int .i64 (num (CV (IX p2 x1) 1)), .int .i64 (num (CV (IX p2 x1) 2)), .int .i64 (num (CV (IX p2 x1) 3)), .int .i64 (num (CV (IX p2 x1) 4)), .int .i64 (num (CV (IX p2 x1) 5)), .int .i64 (num (CV (IX p2 x1) 6)), .int .u16 (num (CV (IX p2 x1) 7)), .int .i64 (num (CV (IX p2 x1) 8)), .int .i64 (num (CV (IX p2 x1) 9)), .bool (tru (CV (IX p2 x1) 10)), .bool (tru (CV (IX p2 x1) 11)), .int .u16 x5.1, .int .u16 x5.2.1, .int .u16 x5.2.2.1, .int .u16 x5.2.2.2.1, .int .u16 x5.2.2.2.2.1, .int .u16 p1, (CT NILV (TK p2 x1))]) then
 (let x6 := LF_rM_paint [.int .i64 (num (CV (IX p2 x1) 0)), .int .i64 (num (CV (IX p2 x1) 1)), .int .i64 (num (CV (IX p2 x1) 2)), .int .i64 (num (CV (IX p2 x1) 3)), .int .i64 (num (CV (IX p2 x1) 4)), .int .i64 (num (CV (IX p2 x1) 5)), .int .i64 (num (CV (IX p2 x1) 6)), .int .u16 (num (CV (IX p2 x1) 7)), .int .i64 (num (CV (IX p2 x1) 8)), .int .i64 (num (CV (IX p2 x1) 9)), .bool (tru (CV (IX p2 x1) 10)), .bool (tru (CV (IX p2 x1) 11)), .int .u16 x5.1, .int .u16 x5.2.1, .int .u16 x5.2.2.1, .int .u16 x5.2.2.2.1, .int .u16 x5.2.2.2.2.1, .int .u16 p1, (CT NILV (TK p2 x1))]
 bif (!(tru (x6.getD 1 undef))) then
 ([.int .i64 0, .int .u16 0, .int .u16 0, .int .u16 0, .int .u16 0, .int .u16 0, .int .i64 16, .int .u16 p1, p2])
 else
 ([.int .i64 0, .int .u16 x5.1, .int .u16 x5.2.1, .int .u16 x5.2.2.1, .int .u16 x5.2.2.2.1, .int .u16 x5.2.2.2.2.1, .int .i64 0, .int .u16 p1, (x6.getD 3 undef)]))
 else
 ([])))
 else
 ([]))
 else
 ([]))
 else
 ([]))))
 else
 ([]))
 else
 ([])))
 else
 ([])
theorem LF_rM_Pop_eq (p0 p1 : Int) (p2 : Value) : LF_rM_Pop [.int .u16 p0, .int .u16 p1, p2] = OUT_rM_Pop p0 p1 p2 := (LF_rM_Pop_is _).trans ((fold_eq (fun l => l) _).trans (by kernel_rfl))
theorem okB_rM_Pop (p0 p1 : Int) (p2 : Value) : (evB ⟨[C_rM_top, C_rM_Depth], [LC_rM_paint]⟩ Tryz.prog [S_r6_Result, S_r2_scaled] 1000 LC0_rM_Pop [.int .u16 p0, .int .u16 p1, p2]).ok =
 bif (pre_rM_Depth [(PK [.int .u16 p1, p2])]) then
 (let x0 := F_rM_Depth (PK [.int .u16 p1, p2])
 bif (x0 == 0) then
 (true)
 else
 (bif (pre_rM_top [(PK [.int .u16 p1, p2])]) then
 (let x1 := F_rM_top (PK [.int .u16 p1, p2])
 bif (INB p2 x1) then
 (let x2 := F_r6_Result (num (CV (IX p2 x1) 12)) (num (CV (IX p2 x1) 13)) (num (CV (IX p2 x1) 14)) (num (CV (IX p2 x1) 15)) (num (CV (IX p2 x1) 16)) (num (CV (IX p2 x1) 17)) (num (CV (IX p2 x1) 18)) (num (CV (IX p2 x1) 19)) (num (CV (IX p2 x1) 20)) (num (CV (IX p2 x1) 21)) (num (CV (IX p2 x1) 22)) p1
 bif (!x2.2.2.2.2.2) then
 (let x3 := F_r2_scaled (num (CV (IX p2 x1) 0)) (num (CV (IX p2 x1) 1)) (num (CV (IX p2 x1) 2)) (num (CV (IX p2 x1) 3)) (num (CV (IX p2 x1) 4)) (num (CV (IX p2 x1) 5)) (num (CV (IX p2 x1) 6)) (num (CV (IX p2 x1) 7)) (num (CV (IX p2 x1) 8)) (num (CV (IX p2 x1) 9)) (tru (CV (IX p2 x1) 10)) (tru (CV (IX p2 x1) 11)) 0 0 0 0 0 p0 p1
 bif (!x3.2.2.2.2.2) then
 (true)
 else
 (bif (pre_rM_top [(PK [.int .u16 p1, p2])]) then
 (bif (TKB p2 x1) then
 (bif (RO 112 (CT NILV (TK p2 x1))) then
 (bif (!x2.2.2.2.2.2) then
 (true)
 else
 (bif (pre_rM_paint [.int .i64 (num (CV (IX p2 x1) 0)), .int .i64 (num (CV (IX p2 x1) 1)), .int .i64 (num (CV (IX p2 x1) 2)), .int .i64 (num (CV (IX p2 x1) 3)), .int .i64 (num (CV (IX p2 x1) 4)), .int .i64 (num (CV (IX p2 x1) 5)), .int .i64 (num (CV (IX p2 x1) 6)), .int .u16 (num (CV (IX p2 x1) 7)), .int .i64 (num (CV (IX p2 x1) 8)), .int .i64 (num (CV (IX p2 x1) 9)), .bool (tru (CV (IX p2 x1) 10)), .bool (tru (CV (IX p2 x1) 11)), .int .u16 x3.1, .int .u16 x3.2.1, .int .u16 x3.2.2.1, .int .u16 x3.2.2.2.1, .int .u16 x3.2.2.2.2.1, .int .u16 p1, (CT NILV (TK p2 x1))]) then
 (true)
 else
 (false)))
 else
 (false))
 else
 (false))
 else
 (false)))
 else
 (let x4 := F_r2_scaled (num (CV (IX p2 x1) 0)) (num (CV (IX p2 x1) 1)) (num (CV (IX p2 x1) 2)) (num (CV (IX p2 x1) 3)) (num (CV (IX p2 x1) 4)) (num (CV (IX p2 x1) 5)) (num (CV (IX p2 x1) 6)) (num (CV (IX p2 x1) 7)) (num (CV (IX p2 x1) 8)) (num (CV (IX p2 x1) 9)) (tru (CV (IX p2 x1) 10)) (tru (CV (IX p2 x1) 11)) x2.1 x2.2.1 x2.2.2.1 x2.2.2.2.1 x2.2.2.2.2.1 p0 p1
 bif (!x4.2.2.2.2.2) then
 (true)
 else
 (bif (pre_rM_top [(PK [.int .u16 p1, p2])]) then
 (bif (TKB p2 x1) then
 (bif (RO 112 (CT NILV (TK p2 x1))) then
 (bif (!x2.2.2.2.2.2) then
 (true)
 else
 (bif (pre_rM_paint [.int .i64 (num (CV (IX p2 x1) 0)), .int .i64 (num (CV (IX p2 x1) 1)), .int .i64 (num (CV (IX p2 x1) 2)), .int .i64 (num (CV (IX p2 x1) 3)), .int .i64 (num (CV (IX p2 x1) 4)), .int .i64 (num (CV (IX p2 x1) 5)), .int .i64 (num (CV (IX p2 x1) 6)), .int .u16 (num (CV (IX p2 x1) 7)), .int .i64 (num (CV (IX p2 x1) 8)), .int .i64 (num (CV (IX p2 x1) 9)), .bool (tru (CV (IX p2 x1) 10)), .bool (tru (CV (IX p2 x1) 11)), .int .u16 x4.1, .int .u16 x4.2.1, .int .u16 x4.2.2.1, .int .u16 x4.2.2.2.1, .int .u16 x4.2.2.2.2.1, .int .u16 p1, (CT NILV (TK p2 x1))]) then
 (true)
 else
 (false)))
 else
 (false))
 else
 (false))
 else
 (false))))
 else
 (false))
 else
 (false)))
 else
 (false) := (okR_eq _).trans (by kernel_rfl)
theorem env_rM_Pop : EnvOK Tryz.prog InvN ⟨[C_rM_top, C_rM_Depth], [LC_rM_paint]⟩ ∧ AllOK Tryz.prog InvN [S_r6_Result, S_r2_scaled] := ⟨⟨(allC_cons ok_rM_top (allC_cons ok_rM_Depth allC_nil)), (allL_cons ok_rM_paint allL_nil)⟩, (allOK_cons ok_r6_Result (allOK_cons ok_r2_scaled allOK_nil))⟩
theorem okA_rM_Pop (h : ∀ p0 p1 p2, IntKind.u16.min ≤ p0 → p0 ≤ IntKind.u16.max → IntKind.u16.min ≤ p1 → p1 ≤ IntKind.u16.max → inKind (.l LV) p2 → pre_rM_Pop [.int .u16 p0, .int .u16 p1, p2] = true → (evB ⟨[C_rM_top, C_rM_Depth], [LC_rM_paint]⟩ Tryz.prog [S_r6_Result, S_r2_scaled] 1000 LC0_rM_Pop [.int .u16 p0, .int .u16 p1, p2]).ok = true) : LoopTrue Tryz.prog InvN LC_rM_Pop := body_true env_rM_Pop.1 env_rM_Pop.2 1000 LC_rM_Pop rfl (fun xs => LF_rM_Pop_is xs) (by
 refine kLi fun p0 p0lo p0hi => ?_
 refine kLi fun p1 p1lo p1hi => ?_
 refine kLc fun p2 p2k => ?_
 refine kLn ?_
 intro hp
 exact h p0 p1 p2 p0lo p0hi p1lo p1hi p2k hp)
theorem ok_rM_Pop : LoopTrue Tryz.prog InvN LC_rM_Pop := okA_rM_Pop fun p0 p1 p2 _ _ _ _ _ hp => by
 have hp : lenOK p2 = true := hp
 have h1 : INB p2 (F_rM_top (PK [.int .u16 p1, p2])) = true := by rw [F_rM_top_eq]; exact lenOK.last hp
 have h2 : TKB p2 (F_rM_top (PK [.int .u16 p1, p2])) = true := by rw [F_rM_top_eq]; exact lenOK.tkb hp
 have k : (F_rM_Depth (PK [.int .u16 p1, p2]) == 0) = false → lenOK (TK p2 (F_rM_top (PK [.int .u16 p1, p2]))) = true := fun h => by rw [F_rM_top_eq]; exact lenOK.tk hp (by rw [F_rM_Depth_eq] at h; exact h)
 rw [okB_rM_Pop]
 repeat' (first | with_reducible rfl | refine bif_ok (fun h => ?_) (fun h => ?_))
 all_goals first | exact bool_no h1 h | exact bool_no h2 h | exact bool_no (lenOK.clone (k (by assumption))) h | exact bool_no (lenOK.cl (k (by assumption))) h | exact bool_no (c := true) rfl h
end Go.Proofs.YtdioaiepkhepaaaGreatDoor
