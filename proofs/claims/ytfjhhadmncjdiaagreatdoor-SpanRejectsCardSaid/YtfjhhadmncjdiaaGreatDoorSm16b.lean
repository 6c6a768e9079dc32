/- Chapter 16's rows: what every, Classify, valid tell. Printed by a program (gen/Gen2.lean) but for the loops' proofs; what each function does is told by the evaluator, and the kernel checks it. No condition. -/
import Derived.Test.YtfjhhadmncjdiaaGreatDoorSm16a
import Derived.KernelRfl
import Derived.Shelf.Spec.TrailingZeros
import Derived.Laws.Bits64b
namespace Go.Proofs.YtfjhhadmncjdiaaGreatDoor
set_option maxRecDepth 100000
open Go.RowKit

/-! compositor/compositorgen.At -/
def A_gen_At : List PS := [.c (.l [.i .i64]), .c (.i .i64)]
def R_gen_At : RS := .one (.c (.i .i64))
theorem env_gen_At : EnvOK Tryz.prog InvN ⟨[], []⟩ ∧ AllOK Tryz.prog InvN [] := ⟨⟨allC_nil, allL_nil⟩, allOK_nil⟩

/-! compositor/compositorref13.Classify -/
def A_ref13_Classify : List PS := [.c (.l [.i .u16, .i .u16, .i .u16, .i .u16, .i .u16]), .c (.i .u16)]
def R_ref13_Classify : RS := .one (.c (.i .i64))
def head_ref13_Classify_3 : Shp := ⟨[.p (.c (.h (.l [.i .u16, .i .u16, .i .u16, .i .u16, .i .u16]))), .p (.c (.h (.i .u16))), .any, .any, .any, .p (.c (.h (.b))), .p (.c (.h (.b))), .p (.c (.h (.b))), .p (.c (.h (.i .i64))), .any, .any, .any, .any, .any, .any, .any, .any, .any, .any, .any, .any, .any, .any, .any, .any, .any, .any, .any, .any, .any, .any, .any, .any, .any, .any, .any, .any, .any, .any, .any, .any, .any, .any, .any, .any, .any, .any, .any, .any, .any, .any, .any, .any, .any, .any, .any, .any, .any, .any, .any, .any, .any, .any], []⟩
def outs_ref13_Classify_3 : List (Xt × Shp × Nat) := [(.exit 0, ⟨[.any, .any, .any, .any, .any, .p (.c (.h (.b))), .p (.c (.h (.b))), .p (.c (.h (.b))), .any, .any, .any, .any, .any, .any, .any, .any, .any, .any, .any, .any, .any, .any, .any, .any, .any, .any, .any, .any, .any, .any, .any, .any, .any, .any, .any, .any, .any, .any, .any, .any, .any, .any, .any, .any, .any, .any, .any, .any, .any, .any, .any, .any, .any, .any, .any, .any, .any, .any, .any, .any, .any, .any, .any], []⟩, 0)]
noncomputable def OUT_ref13_Classify_3 (p0 : Value) (p1 : Int) (p2 : Bool) (p3 : Bool) (p4 : Bool) (p5 : Int) : List Value :=
    bif (decide (p5 < (LN p0))) then
      (bif p2 then
        (bif (INB p0 p5) then
          (bif p3 then
            (bif (INB p0 p5) then
              (bif (INB p0 0) then
                (bif p4 then
                  (let x0 := F_ref01_Full p1
                  bif x0 then
                    (bif (INB p0 p5) then
                      (let x1 := F_ref01_ValidPixel (num (CV (IX p0 p5) 0)) (num (CV (IX p0 p5) 1)) (num (CV (IX p0 p5) 2)) (num (CV (IX p0 p5) 3)) (num (CV (IX p0 p5) 4)) p1
                      bif x1 then
                        (bif (INB p0 p5) then
                          ([.int .i64 (-1), p0, .int .u16 p1, .bool ((((num (CV (IX p0 p5) 0)) == 0) && (((num (CV (IX p0 p5) 1)) == 0) && ((num (CV (IX p0 p5) 2)) == 0))) && (((num (CV (IX p0 p5) 3)) == 0) && ((num (CV (IX p0 p5) 4)) == 0))), .bool ((((num (CV (IX p0 p5) 0)) == (num (CV (IX p0 0) 0))) && (((num (CV (IX p0 p5) 1)) == (num (CV (IX p0 0) 1))) && ((num (CV (IX p0 p5) 2)) == (num (CV (IX p0 0) 2))))) && (((num (CV (IX p0 p5) 3)) == (num (CV (IX p0 0) 3))) && ((num (CV (IX p0 p5) 4)) == (num (CV (IX p0 0) 4))))), .bool ((num (CV (IX p0 p5) 3)) == p1), .int .i64 (IntKind.i64.wrap (p5 + 1))])
                        else
                          ([]))
                      else
                        ([.int .i64 (-1), p0, .int .u16 p1, .bool ((((num (CV (IX p0 p5) 0)) == 0) && (((num (CV (IX p0 p5) 1)) == 0) && ((num (CV (IX p0 p5) 2)) == 0))) && (((num (CV (IX p0 p5) 3)) == 0) && ((num (CV (IX p0 p5) 4)) == 0))), .bool ((((num (CV (IX p0 p5) 0)) == (num (CV (IX p0 0) 0))) && (((num (CV (IX p0 p5) 1)) == (num (CV (IX p0 0) 1))) && ((num (CV (IX p0 p5) 2)) == (num (CV (IX p0 0) 2))))) && (((num (CV (IX p0 p5) 3)) == (num (CV (IX p0 0) 3))) && ((num (CV (IX p0 p5) 4)) == (num (CV (IX p0 0) 4))))), .bool false, .int .i64 (IntKind.i64.wrap (p5 + 1))]))
                    else
                      ([]))
                  else
                    ([.int .i64 (-1), p0, .int .u16 p1, .bool ((((num (CV (IX p0 p5) 0)) == 0) && (((num (CV (IX p0 p5) 1)) == 0) && ((num (CV (IX p0 p5) 2)) == 0))) && (((num (CV (IX p0 p5) 3)) == 0) && ((num (CV (IX p0 p5) 4)) == 0))), .bool ((((num (CV (IX p0 p5) 0)) == (num (CV (IX p0 0) 0))) && (((num (CV (IX p0 p5) 1)) == (num (CV (IX p0 0) 1))) && ((num (CV (IX p0 p5) 2)) == (num (CV (IX p0 0) 2))))) && (((num (CV (IX p0 p5) 3)) == (num (CV (IX p0 0) 3))) && ((num (CV (IX p0 p5) 4)) == (num (CV (IX p0 0) 4))))), .bool false, .int .i64 (IntKind.i64.wrap (p5 + 1))]))
                else
                  ([.int .i64 (-1), p0, .int .u16 p1, .bool ((((num (CV (IX p0 p5) 0)) == 0) && (((num (CV (IX p0 p5) 1)) == 0) && ((num (CV (IX p0 p5) 2)) == 0))) && (((num (CV (IX p0 p5) 3)) == 0) && ((num (CV (IX p0 p5) 4)) == 0))), .bool ((((num (CV (IX p0 p5) 0)) == (num (CV (IX p0 0) 0))) && (((num (CV (IX p0 p5) 1)) == (num (CV (IX p0 0) 1))) && ((num (CV (IX p0 p5) 2)) == (num (CV (IX p0 0) 2))))) && (((num (CV (IX p0 p5) 3)) == (num (CV (IX p0 0) 3))) && ((num (CV (IX p0 p5) 4)) == (num (CV (IX p0 0) 4))))), .bool false, .int .i64 (IntKind.i64.wrap (p5 + 1))]))
              else
                ([]))
            else
              ([]))
          else
            (bif p4 then
              (let x2 := F_ref01_Full p1
              bif x2 then
                (bif (INB p0 p5) then
                  (let x3 := F_ref01_ValidPixel (num (CV (IX p0 p5) 0)) (num (CV (IX p0 p5) 1)) (num (CV (IX p0 p5) 2)) (num (CV (IX p0 p5) 3)) (num (CV (IX p0 p5) 4)) p1
                  bif x3 then
                    (bif (INB p0 p5) then
                      ([.int .i64 (-1), p0, .int .u16 p1, .bool ((((num (CV (IX p0 p5) 0)) == 0) && (((num (CV (IX p0 p5) 1)) == 0) && ((num (CV (IX p0 p5) 2)) == 0))) && (((num (CV (IX p0 p5) 3)) == 0) && ((num (CV (IX p0 p5) 4)) == 0))), .bool false, .bool ((num (CV (IX p0 p5) 3)) == p1), .int .i64 (IntKind.i64.wrap (p5 + 1))])
                    else
                      ([]))
                  else
                    ([.int .i64 (-1), p0, .int .u16 p1, .bool ((((num (CV (IX p0 p5) 0)) == 0) && (((num (CV (IX p0 p5) 1)) == 0) && ((num (CV (IX p0 p5) 2)) == 0))) && (((num (CV (IX p0 p5) 3)) == 0) && ((num (CV (IX p0 p5) 4)) == 0))), .bool false, .bool false, .int .i64 (IntKind.i64.wrap (p5 + 1))]))
                else
                  ([]))
              else
                ([.int .i64 (-1), p0, .int .u16 p1, .bool ((((num (CV (IX p0 p5) 0)) == 0) && (((num (CV (IX p0 p5) 1)) == 0) && ((num (CV (IX p0 p5) 2)) == 0))) && (((num (CV (IX p0 p5) 3)) == 0) && ((num (CV (IX p0 p5) 4)) == 0))), .bool false, .bool false, .int .i64 (IntKind.i64.wrap (p5 + 1))]))
            else
              ([.int .i64 (-1), p0, .int .u16 p1, .bool ((((num (CV (IX p0 p5) 0)) == 0) && (((num (CV (IX p0 p5) 1)) == 0) && ((num (CV (IX p0 p5) 2)) == 0))) && (((num (CV (IX p0 p5) 3)) == 0) && ((num (CV (IX p0 p5) 4)) == 0))), .bool false, .bool false, .int .i64 (IntKind.i64.wrap (p5 + 1))])))
        else
          ([]))
      else
        (bif p3 then
          (bif (INB p0 p5) then
            (bif (INB p0 0) then
              (bif p4 then
                (let x4 := F_ref01_Full p1
                bif x4 then
                  (bif (INB p0 p5) then
                    (let x5 := F_ref01_ValidPixel (num (CV (IX p0 p5) 0)) (num (CV (IX p0 p5) 1)) (num (CV (IX p0 p5) 2)) (num (CV (IX p0 p5) 3)) (num (CV (IX p0 p5) 4)) p1
                    bif x5 then
                      (bif (INB p0 p5) then
                        ([.int .i64 (-1), p0, .int .u16 p1, .bool false, .bool ((((num (CV (IX p0 p5) 0)) == (num (CV (IX p0 0) 0))) && (((num (CV (IX p0 p5) 1)) == (num (CV (IX p0 0) 1))) && ((num (CV (IX p0 p5) 2)) == (num (CV (IX p0 0) 2))))) && (((num (CV (IX p0 p5) 3)) == (num (CV (IX p0 0) 3))) && ((num (CV (IX p0 p5) 4)) == (num (CV (IX p0 0) 4))))), .bool ((num (CV (IX p0 p5) 3)) == p1), .int .i64 (IntKind.i64.wrap (p5 + 1))])
                      else
                        ([]))
                    else
                      ([.int .i64 (-1), p0, .int .u16 p1, .bool false, .bool ((((num (CV (IX p0 p5) 0)) == (num (CV (IX p0 0) 0))) && (((num (CV (IX p0 p5) 1)) == (num (CV (IX p0 0) 1))) && ((num (CV (IX p0 p5) 2)) == (num (CV (IX p0 0) 2))))) && (((num (CV (IX p0 p5) 3)) == (num (CV (IX p0 0) 3))) && ((num (CV (IX p0 p5) 4)) == (num (CV (IX p0 0) 4))))), .bool false, .int .i64 (IntKind.i64.wrap (p5 + 1))]))
                  else
                    ([]))
                else
                  ([.int .i64 (-1), p0, .int .u16 p1, .bool false, .bool ((((num (CV (IX p0 p5) 0)) == (num (CV (IX p0 0) 0))) && (((num (CV (IX p0 p5) 1)) == (num (CV (IX p0 0) 1))) && ((num (CV (IX p0 p5) 2)) == (num (CV (IX p0 0) 2))))) && (((num (CV (IX p0 p5) 3)) == (num (CV (IX p0 0) 3))) && ((num (CV (IX p0 p5) 4)) == (num (CV (IX p0 0) 4))))), .bool false, .int .i64 (IntKind.i64.wrap (p5 + 1))]))
              else
                ([.int .i64 (-1), p0, .int .u16 p1, .bool false, .bool ((((num (CV (IX p0 p5) 0)) == (num (CV (IX p0 0) 0))) && (((num (CV (IX p0 p5) 1)) == (num (CV (IX p0 0) 1))) && ((num (CV (IX p0 p5) 2)) == (num (CV (IX p0 0) 2))))) && (((num (CV (IX p0 p5) 3)) == (num (CV (IX p0 0) 3))) && ((num (CV (IX p0 p5) 4)) == (num (CV (IX p0 0) 4))))), .bool false, .int .i64 (IntKind.i64.wrap (p5 + 1))]))
            else
              ([]))
          else
            ([]))
        else
          (bif p4 then
            (let x6 := F_ref01_Full p1
            bif x6 then
              (bif (INB p0 p5) then
                (let x7 := F_ref01_ValidPixel (num (CV (IX p0 p5) 0)) (num (CV (IX p0 p5) 1)) (num (CV (IX p0 p5) 2)) (num (CV (IX p0 p5) 3)) (num (CV (IX p0 p5) 4)) p1
                bif x7 then
                  (bif (INB p0 p5) then
                    ([.int .i64 (-1), p0, .int .u16 p1, .bool false, .bool false, .bool ((num (CV (IX p0 p5) 3)) == p1), .int .i64 (IntKind.i64.wrap (p5 + 1))])
                  else
                    ([]))
                else
                  ([.int .i64 (-1), p0, .int .u16 p1, .bool false, .bool false, .bool false, .int .i64 (IntKind.i64.wrap (p5 + 1))]))
              else
                ([]))
            else
              ([.int .i64 (-1), p0, .int .u16 p1, .bool false, .bool false, .bool false, .int .i64 (IntKind.i64.wrap (p5 + 1))]))
          else
            ([.int .i64 (-1), p0, .int .u16 p1, .bool false, .bool false, .bool false, .int .i64 (IntKind.i64.wrap (p5 + 1))]))))
    else
      ([.int .i64 0, .bool p2, .bool p3, .bool p4])
noncomputable def OL_ref13_Classify_3 (xs : List Value) : List Value := OUT_ref13_Classify_3 (xs.getD 0 undef) (num (xs.getD 1 undef)) (tru (xs.getD 2 undef)) (tru (xs.getD 3 undef)) (tru (xs.getD 4 undef)) (num (xs.getD 5 undef))
noncomputable def LF_ref13_Classify_3 : List Value → List Value := LFof OL_ref13_Classify_3
def pre_ref13_Classify_3 (xs : List Value) : Bool := decide (0 ≤ num (xs.getD 5 undef))
theorem LF_ref13_Classify_3_go (p0 : Value) (p1 : Int) (p2 : Bool) (p3 : Bool) (p4 : Bool) (p5 : Int) : LF_ref13_Classify_3 [p0, .int .u16 p1, .bool p2, .bool p3, .bool p4, .int .i64 p5] = goOn LF_ref13_Classify_3 (OUT_ref13_Classify_3 p0 p1 p2 p3 p4 p5) := LFof_eq _ _
theorem env_ref13_Classify_3 : EnvOK Tryz.prog InvN ⟨[], []⟩ ∧ AllOK Tryz.prog InvN [S_ref01_Full, S_ref01_ValidPixel] := ⟨⟨allC_nil, allL_nil⟩, (allOK_cons ok_ref01_Full.any (allOK_cons ok_ref01_ValidPixel allOK_nil))⟩

/-! compositor/span.every -/
def A_span_every_T : List PS := [.c (.l [.i .u16, .i .u16, .i .u16, .i .u16, .i .u16]), .c (.f 30 [])]
def R_span_every_T : RS := .one (.c (.b))
def head_span_every_T_2 : Shp := ⟨[.any, .p (.c (.h (.f 30 []))), .any, .any, .any, .any, .any, .p (.c (.h (.l [.i .u16, .i .u16, .i .u16, .i .u16, .i .u16]))), .p (.c (.h (.i .i64))), .p (.c (.h (.i .i64))), .any, .any, .any, .any, .any, .any, .any, .any], []⟩
def outs_span_every_T_2 : List (Xt × Shp × Nat) := [(.ret, ⟨[.any, .any, .any, .any, .p (.c (.h (.b))), .any, .any, .any, .any, .any, .any, .any, .any, .any, .any, .any, .any, .any], []⟩, 0), (.exit 0, ⟨[.any, .any, .any, .any, .any, .any, .any, .any, .any, .any, .any, .any, .any, .any, .any, .any, .any, .any], []⟩, 0)]
noncomputable def OUT_span_every_T_2 (_p0 : Value) (p1 : Value) (p2 : Int) (p3 : Int) : List Value :=
    bif (decide (p3 < p2)) then
      (bif (INB p1 p3) then
        (let x0 := F_pixel_Transparent (num (CV (IX p1 p3) 0)) (num (CV (IX p1 p3) 1)) (num (CV (IX p1 p3) 2)) (num (CV (IX p1 p3) 3)) (num (CV (IX p1 p3) 4))
        bif (!x0) then
          ([.int .i64 0, .bool false])
        else
          ([.int .i64 (-1), (PK []), p1, .int .i64 p2, .int .i64 (IntKind.i64.wrap (p3 + 1))]))
      else
        ([]))
    else
      ([.int .i64 1])
noncomputable def OL_span_every_T_2 (xs : List Value) : List Value := OUT_span_every_T_2 (xs.getD 0 undef) (xs.getD 1 undef) (num (xs.getD 2 undef)) (num (xs.getD 3 undef))
noncomputable def LF_span_every_T_2 : List Value → List Value := LFof OL_span_every_T_2
def pre_span_every_T_2 (xs : List Value) : Bool := decide (num (xs.getD 2 undef) = LN (xs.getD 1 undef)) && decide (0 ≤ num (xs.getD 3 undef))
noncomputable def LC_span_every_T_2 : LoopC := ⟨27, 2, LF_span_every_T_2, pre_span_every_T_2, 0, head_span_every_T_2, outs_span_every_T_2⟩
theorem LF_span_every_T_2_go (p0 : Value) (p1 : Value) (p2 : Int) (p3 : Int) : LF_span_every_T_2 [p0, p1, .int .i64 p2, .int .i64 p3] = goOn LF_span_every_T_2 (OUT_span_every_T_2 p0 p1 p2 p3) := LFof_eq _ _
theorem okBL_span_every_T_2 (p0 : Value) (p1 : Value) (p2 : Int) (p3 : Int) : (evL ⟨[], []⟩ Tryz.prog [S_pixel_Transparent] 1000 LC_span_every_T_2 [p0, p1, .int .i64 p2, .int .i64 p3]).ok =
    bif (decide (p3 < p2)) then
      (bif (INB p1 p3) then
        (true)
      else
        (false))
    else
      (true) := (okR_eq _).trans (by kernel_rfl)
theorem step_span_every_T_2 (p0 : Value) (p1 : Value) (p2 : Int) (p3 : Int) : (evL ⟨[], []⟩ Tryz.prog [S_pixel_Transparent] 1000 LC_span_every_T_2 [p0, p1, .int .i64 p2, .int .i64 p3]).outL = OUT_span_every_T_2 p0 p1 p2 p3 := (fold_eq (fun l => l) _).trans (by kernel_rfl)
theorem one_span_every_T_2 : (loopsBy Tryz.prog 27 2).length = 1 := by kernel_rfl
theorem env_span_every_T_2 : EnvOK Tryz.prog InvN ⟨[], []⟩ ∧ AllOK Tryz.prog InvN [S_pixel_Transparent] := ⟨⟨allC_nil, allL_nil⟩, (allOK_cons ok_pixel_Transparent allOK_nil)⟩
theorem lp_span_every_T_2 (meas : List Value → Nat) (h : ∀ p0 p1 p2 p3, inKind (.f 30 []) p0 → inKind (.l [.i .u16, .i .u16, .i .u16, .i .u16, .i .u16]) p1 → IntKind.i64.min ≤ p2 → p2 ≤ IntKind.i64.max → IntKind.i64.min ≤ p3 → p3 ≤ IntKind.i64.max → pre_span_every_T_2 [p0, p1, .int .i64 p2, .int .i64 p3] = true → (evL ⟨[], []⟩ Tryz.prog [S_pixel_Transparent] 1000 LC_span_every_T_2 [p0, p1, .int .i64 p2, .int .i64 p3]).ok = true ∧ okO pre_span_every_T_2 meas (meas [p0, p1, .int .i64 p2, .int .i64 p3]) (OUT_span_every_T_2 p0 p1 p2 p3)) : LoopTrue Tryz.prog InvN LC_span_every_T_2 := loop_lf env_span_every_T_2 1000 LC_span_every_T_2 one_span_every_T_2 meas OL_span_every_T_2 rfl (fun xs hk hp => by
  have hk : KindsL [.f 30 [], .l [.i .u16, .i .u16, .i .u16, .i .u16, .i .u16], .i .i64, .i .i64] xs := hk
  obtain ⟨p0, _, rfl, p0k, p1, _, rfl, p1k, _, _, rfl, ⟨p2, rfl, p2lo, p2hi⟩, _, _, rfl, ⟨p3, rfl, p3lo, p3hi⟩, rfl⟩ := hk
  have h := h p0 p1 p2 p3 p0k p1k p2lo p2hi p3lo p3hi hp
  exact ⟨h.1, step_span_every_T_2 p0 p1 p2 p3, h.2⟩)
theorem ok_span_every_T_2 : LoopTrue Tryz.prog InvN LC_span_every_T_2 := lp_span_every_T_2 (fun xs => (num (xs.getD 2 undef) - num (xs.getD 3 undef)).toNat) (by
  intro p0 p1 p2 p3 p0k p1k _ _ _ _ hp
  have hp : (decide (p2 = LN p1) && decide (0 ≤ p3)) = true := hp
  simp only [Bool.and_eq_true, decide_eq_true_eq] at hp
  obtain ⟨hn, h0⟩ := hp
  have ib : decide (p3 < p2) = true → INB p1 p3 = true := fun h => INB_of h0 (by have := of_decide_eq_true h; omega)
  rw [okBL_span_every_T_2]
  refine ⟨bif_ok (fun h => by rw [ib h]; rfl) (fun _ => rfl), ?_⟩
  unfold OUT_span_every_T_2
  refine okO_bif (fun h => ?_) (fun _ => okO_exit 1)
  simp only [ib h, cond_true]
  have h := of_decide_eq_true h
  refine okO_bif (fun _ => okO_exit 0) (fun _ => okO_next ?_ ?_)
  · show (decide (p2 = LN p1) && decide (0 ≤ IntKind.i64.wrap (p3 + 1))) = true
    rw [up_in p1k h0 (by omega)]
    simp only [Bool.and_eq_true, decide_eq_true_eq]
    exact ⟨hn, by omega⟩
  · show (p2 - IntKind.i64.wrap (p3 + 1)).toNat < (p2 - p3).toNat
    rw [up_in p1k h0 (by omega)]
    omega)
noncomputable def L_span_every_T : List Value → List Value := Classical.choose (veil fun vs => (evFM ⟨[], [LC_span_every_T_2]⟩ Tryz.prog [S_pixel_Transparent] 1000 27 (inL A_span_every_T vs) R_span_every_T).outL)
theorem L_span_every_T_is (vs : List Value) : L_span_every_T vs = (evFM ⟨[], [LC_span_every_T_2]⟩ Tryz.prog [S_pixel_Transparent] 1000 27 (inL A_span_every_T vs) R_span_every_T).outL := Classical.choose_spec (veil fun vs => (evFM ⟨[], [LC_span_every_T_2]⟩ Tryz.prog [S_pixel_Transparent] 1000 27 (inL A_span_every_T vs) R_span_every_T).outL) vs
def pre_span_every_T : List Value → Bool := fun _ => true
noncomputable def C_span_every_T : CSum := ⟨27, L_span_every_T, pre_span_every_T, A_span_every_T, R_span_every_T⟩
theorem env_span_every_T : EnvOK Tryz.prog InvN ⟨[], [LC_span_every_T_2]⟩ ∧ AllOK Tryz.prog InvN [S_pixel_Transparent] := ⟨⟨allC_nil, (allL_cons ok_span_every_T_2 allL_nil)⟩, (allOK_cons ok_pixel_Transparent allOK_nil)⟩
theorem okG_span_every_T (vs : List Value) : (evFM ⟨[], [LC_span_every_T_2]⟩ Tryz.prog [S_pixel_Transparent] 1000 27 (inL A_span_every_T vs) R_span_every_T).goodX R_span_every_T = true := by kernel_rfl
theorem okB_span_every_T (p0 : Value) (p1 : Value) : (evFM ⟨[], [LC_span_every_T_2]⟩ Tryz.prog [S_pixel_Transparent] 1000 27 (inL A_span_every_T [p0, p1]) R_span_every_T).ok =
    bif (pre_span_every_T_2 [(PK []), p0, .int .i64 (LN p0), .int .i64 0]) then
      (true)
    else
      (false) := (okR_eq _).trans (by kernel_rfl)
theorem okA_span_every_T (h : ∀ p0 p1 , inKind (.l [.i .u16, .i .u16, .i .u16, .i .u16, .i .u16]) p0 → inKind (.f 30 []) p1 → pre_span_every_T [p0, p1] = true → (evFM ⟨[], [LC_span_every_T_2]⟩ Tryz.prog [S_pixel_Transparent] 1000 27 (inL A_span_every_T [p0, p1]) R_span_every_T).ok = true) : CSumOK Tryz.prog InvN C_span_every_T := csumOK_partV invN_stays env_span_every_T.1 env_span_every_T.2 1000 27 A_span_every_T R_span_every_T L_span_every_T_is pre_span_every_T okG_span_every_T (fun vs hk hp => by
  obtain ⟨p0, _, rfl, p0k, p1, _, rfl, p1k, rfl⟩ := hk
  exact h p0 p1 p0k p1k hp)
theorem ok_span_every_T : CSumOK Tryz.prog InvN C_span_every_T := okA_span_every_T (by
  intro p0 p1 _ _ hp
  rw [okB_span_every_T]
  have : pre_span_every_T_2 [(PK []), p0, .int .i64 (LN p0), .int .i64 0] = true := (show (decide (LN p0 = LN p0) && decide ((0 : Int) ≤ 0)) = true by simp)
  rw [this]
  rfl)
noncomputable def F_span_every_T (p0 : Value) (p1 : Value) : Bool := tru ((L_span_every_T [p0, p1]).getD 0 undef)
theorem F_span_every_T_eq (p0 : Value) (p1 : Value) : F_span_every_T p0 p1 =
    bif (pre_span_every_T_2 [(PK []), p0, .int .i64 (LN p0), .int .i64 0]) then
      (let x0 := LF_span_every_T_2 [(PK []), p0, .int .i64 (LN p0), .int .i64 0]
      bif (IXT x0 0) then
        ((tru (x0.getD 1 undef)))
      else
        (true))
    else
      ((tru undef)) :=
  spellV (L := L_span_every_T) (fun l => tru ((l).getD 0 undef)) (evFM ⟨[], [LC_span_every_T_2]⟩ Tryz.prog [S_pixel_Transparent] 1000 27 (inL A_span_every_T [p0, p1]) R_span_every_T) (L_span_every_T_is _) (by kernel_rfl)

/-! compositor/span.every -/
def A_span_every_S : List PS := [.c (.l [.i .u16, .i .u16, .i .u16, .i .u16, .i .u16]), .c (.f 31 [.q [.l [.i .u16, .i .u16, .i .u16, .i .u16, .i .u16]]])]
def R_span_every_S : RS := .one (.c (.b))
def head_span_every_S_2 : Shp := ⟨[.any, .p (.c (.h (.f 31 [.q [.l [.i .u16, .i .u16, .i .u16, .i .u16, .i .u16]]]))), .any, .any, .any, .any, .any, .p (.c (.h (.l [.i .u16, .i .u16, .i .u16, .i .u16, .i .u16]))), .p (.c (.h (.i .i64))), .p (.c (.h (.i .i64))), .any, .any, .any, .any, .any, .any, .any, .any], []⟩
def outs_span_every_S_2 : List (Xt × Shp × Nat) := [(.ret, ⟨[.any, .any, .any, .any, .p (.c (.h (.b))), .any, .any, .any, .any, .any, .any, .any, .any, .any, .any, .any, .any, .any], []⟩, 0), (.exit 0, ⟨[.any, .any, .any, .any, .any, .any, .any, .any, .any, .any, .any, .any, .any, .any, .any, .any, .any, .any], []⟩, 0)]
noncomputable def OUT_span_every_S_2 (p0 : Value) (p1 : Value) (p2 : Int) (p3 : Int) : List Value :=
    bif (decide (p3 < p2)) then
      (bif (INB p1 p3) then
        (bif (INB (CV (CV p0 0) 0) 0) then
          (bif (!((((num (CV (IX p1 p3) 0)) == (num (CV (IX (CV (CV p0 0) 0) 0) 0))) && (((num (CV (IX p1 p3) 1)) == (num (CV (IX (CV (CV p0 0) 0) 0) 1))) && ((num (CV (IX p1 p3) 2)) == (num (CV (IX (CV (CV p0 0) 0) 0) 2))))) && (((num (CV (IX p1 p3) 3)) == (num (CV (IX (CV (CV p0 0) 0) 0) 3))) && ((num (CV (IX p1 p3) 4)) == (num (CV (IX (CV (CV p0 0) 0) 0) 4)))))) then
            ([.int .i64 0, .bool false])
          else
            ([.int .i64 (-1), (PK [(CV p0 0)]), p1, .int .i64 p2, .int .i64 (IntKind.i64.wrap (p3 + 1))]))
        else
          ([]))
      else
        ([]))
    else
      ([.int .i64 1])
noncomputable def OL_span_every_S_2 (xs : List Value) : List Value := OUT_span_every_S_2 (xs.getD 0 undef) (xs.getD 1 undef) (num (xs.getD 2 undef)) (num (xs.getD 3 undef))
noncomputable def LF_span_every_S_2 : List Value → List Value := LFof OL_span_every_S_2
def pre_span_every_S_2 (xs : List Value) : Bool := decide (num (xs.getD 2 undef) = LN (xs.getD 1 undef)) && decide (0 ≤ num (xs.getD 3 undef)) && decide (num (xs.getD 2 undef) ≤ LN (CV (CV (xs.getD 0 undef) 0) 0))
noncomputable def LC_span_every_S_2 : LoopC := ⟨27, 2, LF_span_every_S_2, pre_span_every_S_2, 0, head_span_every_S_2, outs_span_every_S_2⟩
theorem LF_span_every_S_2_go (p0 : Value) (p1 : Value) (p2 : Int) (p3 : Int) : LF_span_every_S_2 [p0, p1, .int .i64 p2, .int .i64 p3] = goOn LF_span_every_S_2 (OUT_span_every_S_2 p0 p1 p2 p3) := LFof_eq _ _
theorem okBL_span_every_S_2 (p0 : Value) (p1 : Value) (p2 : Int) (p3 : Int) : (evL ⟨[], []⟩ Tryz.prog [] 1000 LC_span_every_S_2 [p0, p1, .int .i64 p2, .int .i64 p3]).ok =
    bif (decide (p3 < p2)) then
      (bif (INB p1 p3) then
        (bif (INB (CV (CV p0 0) 0) 0) then
          (true)
        else
          (false))
      else
        (false))
    else
      (true) := (okR_eq _).trans (by kernel_rfl)
theorem step_span_every_S_2 (p0 : Value) (p1 : Value) (p2 : Int) (p3 : Int) : (evL ⟨[], []⟩ Tryz.prog [] 1000 LC_span_every_S_2 [p0, p1, .int .i64 p2, .int .i64 p3]).outL = OUT_span_every_S_2 p0 p1 p2 p3 := (fold_eq (fun l => l) _).trans (by kernel_rfl)
theorem one_span_every_S_2 : (loopsBy Tryz.prog 27 2).length = 1 := by kernel_rfl
theorem env_span_every_S_2 : EnvOK Tryz.prog InvN ⟨[], []⟩ ∧ AllOK Tryz.prog InvN [] := ⟨⟨allC_nil, allL_nil⟩, allOK_nil⟩
theorem lp_span_every_S_2 (meas : List Value → Nat) (h : ∀ p0 p1 p2 p3, inKind (.f 31 [.q [.l [.i .u16, .i .u16, .i .u16, .i .u16, .i .u16]]]) p0 → inKind (.l [.i .u16, .i .u16, .i .u16, .i .u16, .i .u16]) p1 → IntKind.i64.min ≤ p2 → p2 ≤ IntKind.i64.max → IntKind.i64.min ≤ p3 → p3 ≤ IntKind.i64.max → pre_span_every_S_2 [p0, p1, .int .i64 p2, .int .i64 p3] = true → (evL ⟨[], []⟩ Tryz.prog [] 1000 LC_span_every_S_2 [p0, p1, .int .i64 p2, .int .i64 p3]).ok = true ∧ okO pre_span_every_S_2 meas (meas [p0, p1, .int .i64 p2, .int .i64 p3]) (OUT_span_every_S_2 p0 p1 p2 p3)) : LoopTrue Tryz.prog InvN LC_span_every_S_2 := loop_lf env_span_every_S_2 1000 LC_span_every_S_2 one_span_every_S_2 meas OL_span_every_S_2 rfl (fun xs hk hp => by
  have hk : KindsL [.f 31 [.q [.l [.i .u16, .i .u16, .i .u16, .i .u16, .i .u16]]], .l [.i .u16, .i .u16, .i .u16, .i .u16, .i .u16], .i .i64, .i .i64] xs := hk
  obtain ⟨p0, _, rfl, p0k, p1, _, rfl, p1k, _, _, rfl, ⟨p2, rfl, p2lo, p2hi⟩, _, _, rfl, ⟨p3, rfl, p3lo, p3hi⟩, rfl⟩ := hk
  have h := h p0 p1 p2 p3 p0k p1k p2lo p2hi p3lo p3hi hp
  exact ⟨h.1, step_span_every_S_2 p0 p1 p2 p3, h.2⟩)
theorem ok_span_every_S_2 : LoopTrue Tryz.prog InvN LC_span_every_S_2 := lp_span_every_S_2 (fun xs => (num (xs.getD 2 undef) - num (xs.getD 3 undef)).toNat) (by
  intro p0 p1 p2 p3 p0k p1k _ _ _ _ hp
  have hp : (decide (p2 = LN p1) && decide (0 ≤ p3) && decide (p2 ≤ LN (CV (CV p0 0) 0))) = true := hp
  simp only [Bool.and_eq_true, decide_eq_true_eq] at hp
  obtain ⟨⟨hn, h0⟩, hc⟩ := hp
  have ib : decide (p3 < p2) = true → INB p1 p3 = true := fun h => INB_of h0 (by have := of_decide_eq_true h; omega)
  have ic : decide (p3 < p2) = true → INB (CV (CV p0 0) 0) 0 = true := fun h => INB_of (Int.le_refl _) (by have := of_decide_eq_true h; omega)
  rw [okBL_span_every_S_2]
  refine ⟨bif_ok (fun h => by rw [ib h, ic h]; rfl) (fun _ => rfl), ?_⟩
  unfold OUT_span_every_S_2
  refine okO_bif (fun h => ?_) (fun _ => okO_exit 1)
  simp only [ib h, ic h, cond_true]
  have h := of_decide_eq_true h
  refine okO_bif (fun _ => okO_exit 0) (fun _ => okO_next ?_ ?_)
  · show (decide (p2 = LN p1) && decide (0 ≤ IntKind.i64.wrap (p3 + 1)) && decide (p2 ≤ LN (CV (CV p0 0) 0))) = true
    rw [up_in p1k h0 (by omega)]
    simp only [Bool.and_eq_true, decide_eq_true_eq]
    refine ⟨⟨hn, by omega⟩, hc⟩
  · show (p2 - IntKind.i64.wrap (p3 + 1)).toNat < (p2 - p3).toNat
    rw [up_in p1k h0 (by omega)]
    omega)
noncomputable def L_span_every_S : List Value → List Value := Classical.choose (veil fun vs => (evFM ⟨[], [LC_span_every_S_2]⟩ Tryz.prog [] 1000 27 (inL A_span_every_S vs) R_span_every_S).outL)
theorem L_span_every_S_is (vs : List Value) : L_span_every_S vs = (evFM ⟨[], [LC_span_every_S_2]⟩ Tryz.prog [] 1000 27 (inL A_span_every_S vs) R_span_every_S).outL := Classical.choose_spec (veil fun vs => (evFM ⟨[], [LC_span_every_S_2]⟩ Tryz.prog [] 1000 27 (inL A_span_every_S vs) R_span_every_S).outL) vs
def pre_span_every_S (xs : List Value) : Bool := decide (LN (xs.getD 0 undef) ≤ LN (CV (CV (xs.getD 1 undef) 0) 0))
noncomputable def C_span_every_S : CSum := ⟨27, L_span_every_S, pre_span_every_S, A_span_every_S, R_span_every_S⟩
theorem env_span_every_S : EnvOK Tryz.prog InvN ⟨[], [LC_span_every_S_2]⟩ ∧ AllOK Tryz.prog InvN [] := ⟨⟨allC_nil, (allL_cons ok_span_every_S_2 allL_nil)⟩, allOK_nil⟩
theorem okG_span_every_S (vs : List Value) : (evFM ⟨[], [LC_span_every_S_2]⟩ Tryz.prog [] 1000 27 (inL A_span_every_S vs) R_span_every_S).goodX R_span_every_S = true := by kernel_rfl
theorem okB_span_every_S (p0 : Value) (p1 : Value) : (evFM ⟨[], [LC_span_every_S_2]⟩ Tryz.prog [] 1000 27 (inL A_span_every_S [p0, p1]) R_span_every_S).ok =
    bif (pre_span_every_S_2 [(PK [(CV p1 0)]), p0, .int .i64 (LN p0), .int .i64 0]) then
      (true)
    else
      (false) := (okR_eq _).trans (by kernel_rfl)
theorem okA_span_every_S (h : ∀ p0 p1 , inKind (.l [.i .u16, .i .u16, .i .u16, .i .u16, .i .u16]) p0 → inKind (.f 31 [.q [.l [.i .u16, .i .u16, .i .u16, .i .u16, .i .u16]]]) p1 → pre_span_every_S [p0, p1] = true → (evFM ⟨[], [LC_span_every_S_2]⟩ Tryz.prog [] 1000 27 (inL A_span_every_S [p0, p1]) R_span_every_S).ok = true) : CSumOK Tryz.prog InvN C_span_every_S := csumOK_partV invN_stays env_span_every_S.1 env_span_every_S.2 1000 27 A_span_every_S R_span_every_S L_span_every_S_is pre_span_every_S okG_span_every_S (fun vs hk hp => by
  obtain ⟨p0, _, rfl, p0k, p1, _, rfl, p1k, rfl⟩ := hk
  exact h p0 p1 p0k p1k hp)
theorem ok_span_every_S : CSumOK Tryz.prog InvN C_span_every_S := okA_span_every_S (by
  intro p0 p1 _ _ hp
  rw [okB_span_every_S]
  have : pre_span_every_S_2 [(PK [(CV p1 0)]), p0, .int .i64 (LN p0), .int .i64 0] = true := (show (decide (LN p0 = LN p0) && decide ((0 : Int) ≤ 0) && decide (LN p0 ≤ LN (CV (CV p1 0) 0))) = true by simpa using of_decide_eq_true hp)
  rw [this]
  rfl)
noncomputable def F_span_every_S (p0 : Value) (p1 : Value) : Bool := tru ((L_span_every_S [p0, p1]).getD 0 undef)
theorem F_span_every_S_eq (p0 : Value) (p1 : Value) : F_span_every_S p0 p1 =
    bif (pre_span_every_S_2 [(PK [(CV p1 0)]), p0, .int .i64 (LN p0), .int .i64 0]) then
      (let x0 := LF_span_every_S_2 [(PK [(CV p1 0)]), p0, .int .i64 (LN p0), .int .i64 0]
      bif (IXT x0 0) then
        ((tru (x0.getD 1 undef)))
      else
        (true))
    else
      ((tru undef)) :=
  spellV (L := L_span_every_S) (fun l => tru ((l).getD 0 undef)) (evFM ⟨[], [LC_span_every_S_2]⟩ Tryz.prog [] 1000 27 (inL A_span_every_S [p0, p1]) R_span_every_S) (L_span_every_S_is _) (by kernel_rfl)

/-! compositor/span.every -/
def A_span_every_O : List PS := [.c (.l [.i .u16, .i .u16, .i .u16, .i .u16, .i .u16]), .c (.f 32 [.q [.i .u16]])]
def R_span_every_O : RS := .one (.c (.b))
def head_span_every_O_2 : Shp := ⟨[.any, .p (.c (.h (.f 32 [.q [.i .u16]]))), .any, .any, .any, .any, .any, .p (.c (.h (.l [.i .u16, .i .u16, .i .u16, .i .u16, .i .u16]))), .p (.c (.h (.i .i64))), .p (.c (.h (.i .i64))), .any, .any, .any, .any, .any, .any, .any, .any], []⟩
def outs_span_every_O_2 : List (Xt × Shp × Nat) := [(.ret, ⟨[.any, .any, .any, .any, .p (.c (.h (.b))), .any, .any, .any, .any, .any, .any, .any, .any, .any, .any, .any, .any, .any], []⟩, 0), (.exit 0, ⟨[.any, .any, .any, .any, .any, .any, .any, .any, .any, .any, .any, .any, .any, .any, .any, .any, .any, .any], []⟩, 0)]
noncomputable def OUT_span_every_O_2 (p0 : Value) (p1 : Value) (p2 : Int) (p3 : Int) : List Value :=
    bif (decide (p3 < p2)) then
      (bif (INB p1 p3) then
        (let x0 := F_pixel_Opaque (num (CV (IX p1 p3) 0)) (num (CV (IX p1 p3) 1)) (num (CV (IX p1 p3) 2)) (num (CV (IX p1 p3) 3)) (num (CV (IX p1 p3) 4)) (num (CV (CV p0 0) 0))
        bif (!x0) then
          ([.int .i64 0, .bool false])
        else
          ([.int .i64 (-1), (PK [(CV p0 0)]), p1, .int .i64 p2, .int .i64 (IntKind.i64.wrap (p3 + 1))]))
      else
        ([]))
    else
      ([.int .i64 1])
noncomputable def OL_span_every_O_2 (xs : List Value) : List Value := OUT_span_every_O_2 (xs.getD 0 undef) (xs.getD 1 undef) (num (xs.getD 2 undef)) (num (xs.getD 3 undef))
noncomputable def LF_span_every_O_2 : List Value → List Value := LFof OL_span_every_O_2
def pre_span_every_O_2 (xs : List Value) : Bool := decide (num (xs.getD 2 undef) = LN (xs.getD 1 undef)) && decide (0 ≤ num (xs.getD 3 undef))
noncomputable def LC_span_every_O_2 : LoopC := ⟨27, 2, LF_span_every_O_2, pre_span_every_O_2, 0, head_span_every_O_2, outs_span_every_O_2⟩
theorem LF_span_every_O_2_go (p0 : Value) (p1 : Value) (p2 : Int) (p3 : Int) : LF_span_every_O_2 [p0, p1, .int .i64 p2, .int .i64 p3] = goOn LF_span_every_O_2 (OUT_span_every_O_2 p0 p1 p2 p3) := LFof_eq _ _
theorem okBL_span_every_O_2 (p0 : Value) (p1 : Value) (p2 : Int) (p3 : Int) : (evL ⟨[], []⟩ Tryz.prog [S_pixel_Opaque] 1000 LC_span_every_O_2 [p0, p1, .int .i64 p2, .int .i64 p3]).ok =
    bif (decide (p3 < p2)) then
      (bif (INB p1 p3) then
        (true)
      else
        (false))
    else
      (true) := (okR_eq _).trans (by kernel_rfl)
theorem step_span_every_O_2 (p0 : Value) (p1 : Value) (p2 : Int) (p3 : Int) : (evL ⟨[], []⟩ Tryz.prog [S_pixel_Opaque] 1000 LC_span_every_O_2 [p0, p1, .int .i64 p2, .int .i64 p3]).outL = OUT_span_every_O_2 p0 p1 p2 p3 := (fold_eq (fun l => l) _).trans (by kernel_rfl)
theorem one_span_every_O_2 : (loopsBy Tryz.prog 27 2).length = 1 := by kernel_rfl
theorem env_span_every_O_2 : EnvOK Tryz.prog InvN ⟨[], []⟩ ∧ AllOK Tryz.prog InvN [S_pixel_Opaque] := ⟨⟨allC_nil, allL_nil⟩, (allOK_cons ok_pixel_Opaque allOK_nil)⟩
theorem lp_span_every_O_2 (meas : List Value → Nat) (h : ∀ p0 p1 p2 p3, inKind (.f 32 [.q [.i .u16]]) p0 → inKind (.l [.i .u16, .i .u16, .i .u16, .i .u16, .i .u16]) p1 → IntKind.i64.min ≤ p2 → p2 ≤ IntKind.i64.max → IntKind.i64.min ≤ p3 → p3 ≤ IntKind.i64.max → pre_span_every_O_2 [p0, p1, .int .i64 p2, .int .i64 p3] = true → (evL ⟨[], []⟩ Tryz.prog [S_pixel_Opaque] 1000 LC_span_every_O_2 [p0, p1, .int .i64 p2, .int .i64 p3]).ok = true ∧ okO pre_span_every_O_2 meas (meas [p0, p1, .int .i64 p2, .int .i64 p3]) (OUT_span_every_O_2 p0 p1 p2 p3)) : LoopTrue Tryz.prog InvN LC_span_every_O_2 := loop_lf env_span_every_O_2 1000 LC_span_every_O_2 one_span_every_O_2 meas OL_span_every_O_2 rfl (fun xs hk hp => by
  have hk : KindsL [.f 32 [.q [.i .u16]], .l [.i .u16, .i .u16, .i .u16, .i .u16, .i .u16], .i .i64, .i .i64] xs := hk
  obtain ⟨p0, _, rfl, p0k, p1, _, rfl, p1k, _, _, rfl, ⟨p2, rfl, p2lo, p2hi⟩, _, _, rfl, ⟨p3, rfl, p3lo, p3hi⟩, rfl⟩ := hk
  have h := h p0 p1 p2 p3 p0k p1k p2lo p2hi p3lo p3hi hp
  exact ⟨h.1, step_span_every_O_2 p0 p1 p2 p3, h.2⟩)
theorem ok_span_every_O_2 : LoopTrue Tryz.prog InvN LC_span_every_O_2 := lp_span_every_O_2 (fun xs => (num (xs.getD 2 undef) - num (xs.getD 3 undef)).toNat) (by
  intro p0 p1 p2 p3 p0k p1k _ _ _ _ hp
  have hp : (decide (p2 = LN p1) && decide (0 ≤ p3)) = true := hp
  simp only [Bool.and_eq_true, decide_eq_true_eq] at hp
  obtain ⟨hn, h0⟩ := hp
  have ib : decide (p3 < p2) = true → INB p1 p3 = true := fun h => INB_of h0 (by have := of_decide_eq_true h; omega)
  rw [okBL_span_every_O_2]
  refine ⟨bif_ok (fun h => by rw [ib h]; rfl) (fun _ => rfl), ?_⟩
  unfold OUT_span_every_O_2
  refine okO_bif (fun h => ?_) (fun _ => okO_exit 1)
  simp only [ib h, cond_true]
  have h := of_decide_eq_true h
  refine okO_bif (fun _ => okO_exit 0) (fun _ => okO_next ?_ ?_)
  · show (decide (p2 = LN p1) && decide (0 ≤ IntKind.i64.wrap (p3 + 1))) = true
    rw [up_in p1k h0 (by omega)]
    simp only [Bool.and_eq_true, decide_eq_true_eq]
    exact ⟨hn, by omega⟩
  · show (p2 - IntKind.i64.wrap (p3 + 1)).toNat < (p2 - p3).toNat
    rw [up_in p1k h0 (by omega)]
    omega)
noncomputable def L_span_every_O : List Value → List Value := Classical.choose (veil fun vs => (evFM ⟨[], [LC_span_every_O_2]⟩ Tryz.prog [S_pixel_Opaque] 1000 27 (inL A_span_every_O vs) R_span_every_O).outL)
theorem L_span_every_O_is (vs : List Value) : L_span_every_O vs = (evFM ⟨[], [LC_span_every_O_2]⟩ Tryz.prog [S_pixel_Opaque] 1000 27 (inL A_span_every_O vs) R_span_every_O).outL := Classical.choose_spec (veil fun vs => (evFM ⟨[], [LC_span_every_O_2]⟩ Tryz.prog [S_pixel_Opaque] 1000 27 (inL A_span_every_O vs) R_span_every_O).outL) vs
def pre_span_every_O : List Value → Bool := fun _ => true
noncomputable def C_span_every_O : CSum := ⟨27, L_span_every_O, pre_span_every_O, A_span_every_O, R_span_every_O⟩
theorem env_span_every_O : EnvOK Tryz.prog InvN ⟨[], [LC_span_every_O_2]⟩ ∧ AllOK Tryz.prog InvN [S_pixel_Opaque] := ⟨⟨allC_nil, (allL_cons ok_span_every_O_2 allL_nil)⟩, (allOK_cons ok_pixel_Opaque allOK_nil)⟩
theorem okG_span_every_O (vs : List Value) : (evFM ⟨[], [LC_span_every_O_2]⟩ Tryz.prog [S_pixel_Opaque] 1000 27 (inL A_span_every_O vs) R_span_every_O).goodX R_span_every_O = true := by kernel_rfl
theorem okB_span_every_O (p0 : Value) (p1 : Value) : (evFM ⟨[], [LC_span_every_O_2]⟩ Tryz.prog [S_pixel_Opaque] 1000 27 (inL A_span_every_O [p0, p1]) R_span_every_O).ok =
    bif (pre_span_every_O_2 [(PK [(CV p1 0)]), p0, .int .i64 (LN p0), .int .i64 0]) then
      (true)
    else
      (false) := (okR_eq _).trans (by kernel_rfl)
theorem okA_span_every_O (h : ∀ p0 p1 , inKind (.l [.i .u16, .i .u16, .i .u16, .i .u16, .i .u16]) p0 → inKind (.f 32 [.q [.i .u16]]) p1 → pre_span_every_O [p0, p1] = true → (evFM ⟨[], [LC_span_every_O_2]⟩ Tryz.prog [S_pixel_Opaque] 1000 27 (inL A_span_every_O [p0, p1]) R_span_every_O).ok = true) : CSumOK Tryz.prog InvN C_span_every_O := csumOK_partV invN_stays env_span_every_O.1 env_span_every_O.2 1000 27 A_span_every_O R_span_every_O L_span_every_O_is pre_span_every_O okG_span_every_O (fun vs hk hp => by
  obtain ⟨p0, _, rfl, p0k, p1, _, rfl, p1k, rfl⟩ := hk
  exact h p0 p1 p0k p1k hp)
theorem ok_span_every_O : CSumOK Tryz.prog InvN C_span_every_O := okA_span_every_O (by
  intro p0 p1 _ _ hp
  rw [okB_span_every_O]
  have : pre_span_every_O_2 [(PK [(CV p1 0)]), p0, .int .i64 (LN p0), .int .i64 0] = true := (show (decide (LN p0 = LN p0) && decide ((0 : Int) ≤ 0)) = true by simp)
  rw [this]
  rfl)
noncomputable def F_span_every_O (p0 : Value) (p1 : Value) : Bool := tru ((L_span_every_O [p0, p1]).getD 0 undef)
theorem F_span_every_O_eq (p0 : Value) (p1 : Value) : F_span_every_O p0 p1 =
    bif (pre_span_every_O_2 [(PK [(CV p1 0)]), p0, .int .i64 (LN p0), .int .i64 0]) then
      (let x0 := LF_span_every_O_2 [(PK [(CV p1 0)]), p0, .int .i64 (LN p0), .int .i64 0]
      bif (IXT x0 0) then
        ((tru (x0.getD 1 undef)))
      else
        (true))
    else
      ((tru undef)) :=
  spellV (L := L_span_every_O) (fun l => tru ((l).getD 0 undef)) (evFM ⟨[], [LC_span_every_O_2]⟩ Tryz.prog [S_pixel_Opaque] 1000 27 (inL A_span_every_O [p0, p1]) R_span_every_O) (L_span_every_O_is _) (by kernel_rfl)

/-! compositor/span.every -/
def A_span_every_V : List PS := [.c (.l [.i .u16, .i .u16, .i .u16, .i .u16, .i .u16]), .c (.f 28 [.q [.i .u16]])]
def R_span_every_V : RS := .one (.c (.b))
def head_span_every_V_2 : Shp := ⟨[.any, .p (.c (.h (.f 28 [.q [.i .u16]]))), .any, .any, .any, .any, .any, .p (.c (.h (.l [.i .u16, .i .u16, .i .u16, .i .u16, .i .u16]))), .p (.c (.h (.i .i64))), .p (.c (.h (.i .i64))), .any, .any, .any, .any, .any, .any, .any, .any], []⟩
def outs_span_every_V_2 : List (Xt × Shp × Nat) := [(.ret, ⟨[.any, .any, .any, .any, .p (.c (.h (.b))), .any, .any, .any, .any, .any, .any, .any, .any, .any, .any, .any, .any, .any], []⟩, 0), (.exit 0, ⟨[.any, .any, .any, .any, .any, .any, .any, .any, .any, .any, .any, .any, .any, .any, .any, .any, .any, .any], []⟩, 0)]
noncomputable def OUT_span_every_V_2 (p0 : Value) (p1 : Value) (p2 : Int) (p3 : Int) : List Value :=
    bif (decide (p3 < p2)) then
      (bif (INB p1 p3) then
        (let x0 := F_sample_Valid (num (CV (IX p1 p3) 0)) (num (CV (IX p1 p3) 1)) (num (CV (IX p1 p3) 2)) (num (CV (IX p1 p3) 3)) (num (CV (IX p1 p3) 4)) (num (CV (CV p0 0) 0))
        bif (!x0) then
          ([.int .i64 0, .bool false])
        else
          ([.int .i64 (-1), (PK [(CV p0 0)]), p1, .int .i64 p2, .int .i64 (IntKind.i64.wrap (p3 + 1))]))
      else
        ([]))
    else
      ([.int .i64 1])
noncomputable def OL_span_every_V_2 (xs : List Value) : List Value := OUT_span_every_V_2 (xs.getD 0 undef) (xs.getD 1 undef) (num (xs.getD 2 undef)) (num (xs.getD 3 undef))
noncomputable def LF_span_every_V_2 : List Value → List Value := LFof OL_span_every_V_2
def pre_span_every_V_2 (xs : List Value) : Bool := decide (num (xs.getD 2 undef) = LN (xs.getD 1 undef)) && decide (0 ≤ num (xs.getD 3 undef))
noncomputable def LC_span_every_V_2 : LoopC := ⟨27, 2, LF_span_every_V_2, pre_span_every_V_2, 0, head_span_every_V_2, outs_span_every_V_2⟩
theorem LF_span_every_V_2_go (p0 : Value) (p1 : Value) (p2 : Int) (p3 : Int) : LF_span_every_V_2 [p0, p1, .int .i64 p2, .int .i64 p3] = goOn LF_span_every_V_2 (OUT_span_every_V_2 p0 p1 p2 p3) := LFof_eq _ _
theorem okBL_span_every_V_2 (p0 : Value) (p1 : Value) (p2 : Int) (p3 : Int) : (evL ⟨[], []⟩ Tryz.prog [S_sample_Valid] 1000 LC_span_every_V_2 [p0, p1, .int .i64 p2, .int .i64 p3]).ok =
    bif (decide (p3 < p2)) then
      (bif (INB p1 p3) then
        (true)
      else
        (false))
    else
      (true) := (okR_eq _).trans (by kernel_rfl)
theorem step_span_every_V_2 (p0 : Value) (p1 : Value) (p2 : Int) (p3 : Int) : (evL ⟨[], []⟩ Tryz.prog [S_sample_Valid] 1000 LC_span_every_V_2 [p0, p1, .int .i64 p2, .int .i64 p3]).outL = OUT_span_every_V_2 p0 p1 p2 p3 := (fold_eq (fun l => l) _).trans (by kernel_rfl)
theorem one_span_every_V_2 : (loopsBy Tryz.prog 27 2).length = 1 := by kernel_rfl
theorem env_span_every_V_2 : EnvOK Tryz.prog InvN ⟨[], []⟩ ∧ AllOK Tryz.prog InvN [S_sample_Valid] := ⟨⟨allC_nil, allL_nil⟩, (allOK_cons ok_sample_Valid allOK_nil)⟩
theorem lp_span_every_V_2 (meas : List Value → Nat) (h : ∀ p0 p1 p2 p3, inKind (.f 28 [.q [.i .u16]]) p0 → inKind (.l [.i .u16, .i .u16, .i .u16, .i .u16, .i .u16]) p1 → IntKind.i64.min ≤ p2 → p2 ≤ IntKind.i64.max → IntKind.i64.min ≤ p3 → p3 ≤ IntKind.i64.max → pre_span_every_V_2 [p0, p1, .int .i64 p2, .int .i64 p3] = true → (evL ⟨[], []⟩ Tryz.prog [S_sample_Valid] 1000 LC_span_every_V_2 [p0, p1, .int .i64 p2, .int .i64 p3]).ok = true ∧ okO pre_span_every_V_2 meas (meas [p0, p1, .int .i64 p2, .int .i64 p3]) (OUT_span_every_V_2 p0 p1 p2 p3)) : LoopTrue Tryz.prog InvN LC_span_every_V_2 := loop_lf env_span_every_V_2 1000 LC_span_every_V_2 one_span_every_V_2 meas OL_span_every_V_2 rfl (fun xs hk hp => by
  have hk : KindsL [.f 28 [.q [.i .u16]], .l [.i .u16, .i .u16, .i .u16, .i .u16, .i .u16], .i .i64, .i .i64] xs := hk
  obtain ⟨p0, _, rfl, p0k, p1, _, rfl, p1k, _, _, rfl, ⟨p2, rfl, p2lo, p2hi⟩, _, _, rfl, ⟨p3, rfl, p3lo, p3hi⟩, rfl⟩ := hk
  have h := h p0 p1 p2 p3 p0k p1k p2lo p2hi p3lo p3hi hp
  exact ⟨h.1, step_span_every_V_2 p0 p1 p2 p3, h.2⟩)
theorem ok_span_every_V_2 : LoopTrue Tryz.prog InvN LC_span_every_V_2 := lp_span_every_V_2 (fun xs => (num (xs.getD 2 undef) - num (xs.getD 3 undef)).toNat) (by
  intro p0 p1 p2 p3 p0k p1k _ _ _ _ hp
  have hp : (decide (p2 = LN p1) && decide (0 ≤ p3)) = true := hp
  simp only [Bool.and_eq_true, decide_eq_true_eq] at hp
  obtain ⟨hn, h0⟩ := hp
  have ib : decide (p3 < p2) = true → INB p1 p3 = true := fun h => INB_of h0 (by have := of_decide_eq_true h; omega)
  rw [okBL_span_every_V_2]
  refine ⟨bif_ok (fun h => by rw [ib h]; rfl) (fun _ => rfl), ?_⟩
  unfold OUT_span_every_V_2
  refine okO_bif (fun h => ?_) (fun _ => okO_exit 1)
  simp only [ib h, cond_true]
  have h := of_decide_eq_true h
  refine okO_bif (fun _ => okO_exit 0) (fun _ => okO_next ?_ ?_)
  · show (decide (p2 = LN p1) && decide (0 ≤ IntKind.i64.wrap (p3 + 1))) = true
    rw [up_in p1k h0 (by omega)]
    simp only [Bool.and_eq_true, decide_eq_true_eq]
    exact ⟨hn, by omega⟩
  · show (p2 - IntKind.i64.wrap (p3 + 1)).toNat < (p2 - p3).toNat
    rw [up_in p1k h0 (by omega)]
    omega)
noncomputable def L_span_every_V : List Value → List Value := Classical.choose (veil fun vs => (evFM ⟨[], [LC_span_every_V_2]⟩ Tryz.prog [S_sample_Valid] 1000 27 (inL A_span_every_V vs) R_span_every_V).outL)
theorem L_span_every_V_is (vs : List Value) : L_span_every_V vs = (evFM ⟨[], [LC_span_every_V_2]⟩ Tryz.prog [S_sample_Valid] 1000 27 (inL A_span_every_V vs) R_span_every_V).outL := Classical.choose_spec (veil fun vs => (evFM ⟨[], [LC_span_every_V_2]⟩ Tryz.prog [S_sample_Valid] 1000 27 (inL A_span_every_V vs) R_span_every_V).outL) vs
def pre_span_every_V : List Value → Bool := fun _ => true
noncomputable def C_span_every_V : CSum := ⟨27, L_span_every_V, pre_span_every_V, A_span_every_V, R_span_every_V⟩
theorem env_span_every_V : EnvOK Tryz.prog InvN ⟨[], [LC_span_every_V_2]⟩ ∧ AllOK Tryz.prog InvN [S_sample_Valid] := ⟨⟨allC_nil, (allL_cons ok_span_every_V_2 allL_nil)⟩, (allOK_cons ok_sample_Valid allOK_nil)⟩
theorem okG_span_every_V (vs : List Value) : (evFM ⟨[], [LC_span_every_V_2]⟩ Tryz.prog [S_sample_Valid] 1000 27 (inL A_span_every_V vs) R_span_every_V).goodX R_span_every_V = true := by kernel_rfl
theorem okB_span_every_V (p0 : Value) (p1 : Value) : (evFM ⟨[], [LC_span_every_V_2]⟩ Tryz.prog [S_sample_Valid] 1000 27 (inL A_span_every_V [p0, p1]) R_span_every_V).ok =
    bif (pre_span_every_V_2 [(PK [(CV p1 0)]), p0, .int .i64 (LN p0), .int .i64 0]) then
      (true)
    else
      (false) := (okR_eq _).trans (by kernel_rfl)
theorem okA_span_every_V (h : ∀ p0 p1 , inKind (.l [.i .u16, .i .u16, .i .u16, .i .u16, .i .u16]) p0 → inKind (.f 28 [.q [.i .u16]]) p1 → pre_span_every_V [p0, p1] = true → (evFM ⟨[], [LC_span_every_V_2]⟩ Tryz.prog [S_sample_Valid] 1000 27 (inL A_span_every_V [p0, p1]) R_span_every_V).ok = true) : CSumOK Tryz.prog InvN C_span_every_V := csumOK_partV invN_stays env_span_every_V.1 env_span_every_V.2 1000 27 A_span_every_V R_span_every_V L_span_every_V_is pre_span_every_V okG_span_every_V (fun vs hk hp => by
  obtain ⟨p0, _, rfl, p0k, p1, _, rfl, p1k, rfl⟩ := hk
  exact h p0 p1 p0k p1k hp)
theorem ok_span_every_V : CSumOK Tryz.prog InvN C_span_every_V := okA_span_every_V (by
  intro p0 p1 _ _ hp
  rw [okB_span_every_V]
  have : pre_span_every_V_2 [(PK [(CV p1 0)]), p0, .int .i64 (LN p0), .int .i64 0] = true := (show (decide (LN p0 = LN p0) && decide ((0 : Int) ≤ 0)) = true by simp)
  rw [this]
  rfl)
noncomputable def F_span_every_V (p0 : Value) (p1 : Value) : Bool := tru ((L_span_every_V [p0, p1]).getD 0 undef)
theorem F_span_every_V_eq (p0 : Value) (p1 : Value) : F_span_every_V p0 p1 =
    bif (pre_span_every_V_2 [(PK [(CV p1 0)]), p0, .int .i64 (LN p0), .int .i64 0]) then
      (let x0 := LF_span_every_V_2 [(PK [(CV p1 0)]), p0, .int .i64 (LN p0), .int .i64 0]
      bif (IXT x0 0) then
        ((tru (x0.getD 1 undef)))
      else
        (true))
    else
      ((tru undef)) :=
  spellV (L := L_span_every_V) (fun l => tru ((l).getD 0 undef)) (evFM ⟨[], [LC_span_every_V_2]⟩ Tryz.prog [S_sample_Valid] 1000 27 (inL A_span_every_V [p0, p1]) R_span_every_V) (L_span_every_V_is _) (by kernel_rfl)

/-! compositor/span.Classify -/
def A_span_Classify : List PS := [.c (.l [.i .u16, .i .u16, .i .u16, .i .u16, .i .u16]), .c (.i .u16)]
def R_span_Classify : RS := .one (.c (.i .i64))
noncomputable def L_span_Classify : List Value → List Value := Classical.choose (veil fun vs => (evFM ⟨[C_span_every_T, C_span_every_S, C_span_every_O, C_span_every_V], []⟩ Tryz.prog [S_pixel_Opaque] 1000 16 (inL A_span_Classify vs) R_span_Classify).outL)
theorem L_span_Classify_is (vs : List Value) : L_span_Classify vs = (evFM ⟨[C_span_every_T, C_span_every_S, C_span_every_O, C_span_every_V], []⟩ Tryz.prog [S_pixel_Opaque] 1000 16 (inL A_span_Classify vs) R_span_Classify).outL := Classical.choose_spec (veil fun vs => (evFM ⟨[C_span_every_T, C_span_every_S, C_span_every_O, C_span_every_V], []⟩ Tryz.prog [S_pixel_Opaque] 1000 16 (inL A_span_Classify vs) R_span_Classify).outL) vs
noncomputable def S_span_Classify : Sum := ⟨16, L_span_Classify, A_span_Classify, R_span_Classify⟩
theorem env_span_Classify : EnvOK Tryz.prog InvN ⟨[C_span_every_T, C_span_every_S, C_span_every_O, C_span_every_V], []⟩ ∧ AllOK Tryz.prog InvN [S_pixel_Opaque] := ⟨⟨(allC_cons ok_span_every_T (allC_cons ok_span_every_S (allC_cons ok_span_every_O (allC_cons ok_span_every_V allC_nil)))), allL_nil⟩, (allOK_cons ok_pixel_Opaque allOK_nil)⟩
theorem okG_span_Classify (vs : List Value) : (evFM ⟨[C_span_every_T, C_span_every_S, C_span_every_O, C_span_every_V], []⟩ Tryz.prog [S_pixel_Opaque] 1000 16 (inL A_span_Classify vs) R_span_Classify).goodX R_span_Classify = true := by kernel_rfl
theorem okB_span_Classify (p0 : Value) (p1 : Int) : (evFM ⟨[C_span_every_T, C_span_every_S, C_span_every_O, C_span_every_V], []⟩ Tryz.prog [S_pixel_Opaque] 1000 16 (inL A_span_Classify [p0, .int .u16 p1]) R_span_Classify).ok =
    bif (pre_span_every_T [p0, (PK [])]) then
      (let x0 := F_span_every_T p0 (PK [])
      bif x0 then
        (true)
      else
        (bif (pre_span_every_S [p0, (PK [(PK [p0])])]) then
          (let x1 := F_span_every_S p0 (PK [(PK [p0])])
          bif x1 then
            (true)
          else
            (bif (pre_span_every_O [p0, (PK [(PK [.int .u16 p1])])]) then
              (true)
            else
              (false)))
        else
          (false)))
    else
      (false) := (okR_eq _).trans (by kernel_rfl)
theorem okA_span_Classify (h : ∀ p0 p1 , inKind (.l [.i .u16, .i .u16, .i .u16, .i .u16, .i .u16]) p0 → IntKind.u16.min ≤ p1 → p1 ≤ IntKind.u16.max → (evFM ⟨[C_span_every_T, C_span_every_S, C_span_every_O, C_span_every_V], []⟩ Tryz.prog [S_pixel_Opaque] 1000 16 (inL A_span_Classify [p0, .int .u16 p1]) R_span_Classify).ok = true) : SumOK Tryz.prog InvN S_span_Classify := sumOK_partL invN_stays env_span_Classify.1 env_span_Classify.2 1000 16 A_span_Classify R_span_Classify L_span_Classify_is okG_span_Classify (fun vs hk => by
  obtain ⟨p0, _, rfl, p0k, _, _, rfl, ⟨p1, rfl, p1lo, p1hi⟩, rfl⟩ := hk
  exact h p0 p1 p0k p1lo p1hi)
theorem ok_span_Classify : SumOK Tryz.prog InvN S_span_Classify := okA_span_Classify (by
  intro p0 p1 _ _ _
  rw [okB_span_Classify]
  have hs : pre_span_every_S [p0, (PK [(PK [p0])])] = true := decide_eq_true (Int.le_refl (LN p0))
  rw [hs]
  exact bif_ok (fun _ => bif_ok (fun _ => rfl) (fun _ => bif_ok (fun _ => bif_ok (fun _ => rfl) (fun _ => bif_ok (fun _ => rfl) (fun h => Bool.noConfusion (show true = false from h)))) (fun h => Bool.noConfusion (show true = false from h)))) (fun h => Bool.noConfusion (show true = false from h)))
noncomputable def F_span_Classify (p0 : Value) (p1 : Int) : Int := num ((L_span_Classify [p0, .int .u16 p1]).getD 0 undef)
theorem F_span_Classify_eq (p0 : Value) (p1 : Int) : F_span_Classify p0 p1 =
    bif (pre_span_every_T [p0, (PK [])]) then
      (let x0 := F_span_every_T p0 (PK [])
      bif x0 then
        (1)
      else
        (bif (pre_span_every_S [p0, (PK [(PK [p0])])]) then
          (let x1 := F_span_every_S p0 (PK [(PK [p0])])
          bif x1 then
            (2)
          else
            (bif (pre_span_every_O [p0, (PK [(PK [.int .u16 p1])])]) then
              (let x2 := F_span_every_O p0 (PK [(PK [.int .u16 p1])])
              bif x2 then
                (3)
              else
                (4))
            else
              ((num undef))))
        else
          ((num undef))))
    else
      ((num undef)) :=
  spellV (L := L_span_Classify) (fun l => num ((l).getD 0 undef)) (evFM ⟨[C_span_every_T, C_span_every_S, C_span_every_O, C_span_every_V], []⟩ Tryz.prog [S_pixel_Opaque] 1000 16 (inL A_span_Classify [p0, .int .u16 p1]) R_span_Classify) (L_span_Classify_is _) (by kernel_rfl)

/-! compositor/span.valid -/
def A_span_valid : List PS := [.c (.l [.i .u16, .i .u16, .i .u16, .i .u16, .i .u16]), .c (.i .u16)]
def R_span_valid : RS := .one (.c (.b))
noncomputable def L_span_valid : List Value → List Value := Classical.choose (veil fun vs => (evFM ⟨[C_span_every_T, C_span_every_S, C_span_every_O, C_span_every_V], []⟩ Tryz.prog [S_sample_Valid] 1000 15 (inL A_span_valid vs) R_span_valid).outL)
theorem L_span_valid_is (vs : List Value) : L_span_valid vs = (evFM ⟨[C_span_every_T, C_span_every_S, C_span_every_O, C_span_every_V], []⟩ Tryz.prog [S_sample_Valid] 1000 15 (inL A_span_valid vs) R_span_valid).outL := Classical.choose_spec (veil fun vs => (evFM ⟨[C_span_every_T, C_span_every_S, C_span_every_O, C_span_every_V], []⟩ Tryz.prog [S_sample_Valid] 1000 15 (inL A_span_valid vs) R_span_valid).outL) vs
noncomputable def S_span_valid : Sum := ⟨15, L_span_valid, A_span_valid, R_span_valid⟩
theorem env_span_valid : EnvOK Tryz.prog InvN ⟨[C_span_every_T, C_span_every_S, C_span_every_O, C_span_every_V], []⟩ ∧ AllOK Tryz.prog InvN [S_sample_Valid] := ⟨⟨(allC_cons ok_span_every_T (allC_cons ok_span_every_S (allC_cons ok_span_every_O (allC_cons ok_span_every_V allC_nil)))), allL_nil⟩, (allOK_cons ok_sample_Valid allOK_nil)⟩
theorem okG_span_valid (vs : List Value) : (evFM ⟨[C_span_every_T, C_span_every_S, C_span_every_O, C_span_every_V], []⟩ Tryz.prog [S_sample_Valid] 1000 15 (inL A_span_valid vs) R_span_valid).goodX R_span_valid = true := by kernel_rfl
theorem okB_span_valid (p0 : Value) (p1 : Int) : (evFM ⟨[C_span_every_T, C_span_every_S, C_span_every_O, C_span_every_V], []⟩ Tryz.prog [S_sample_Valid] 1000 15 (inL A_span_valid [p0, .int .u16 p1]) R_span_valid).ok =
    bif (pre_span_every_V [p0, (PK [(PK [.int .u16 p1])])]) then
      (true)
    else
      (false) := (okR_eq _).trans (by kernel_rfl)
theorem okA_span_valid (h : ∀ p0 p1 , inKind (.l [.i .u16, .i .u16, .i .u16, .i .u16, .i .u16]) p0 → IntKind.u16.min ≤ p1 → p1 ≤ IntKind.u16.max → (evFM ⟨[C_span_every_T, C_span_every_S, C_span_every_O, C_span_every_V], []⟩ Tryz.prog [S_sample_Valid] 1000 15 (inL A_span_valid [p0, .int .u16 p1]) R_span_valid).ok = true) : SumOK Tryz.prog InvN S_span_valid := sumOK_partL invN_stays env_span_valid.1 env_span_valid.2 1000 15 A_span_valid R_span_valid L_span_valid_is okG_span_valid (fun vs hk => by
  obtain ⟨p0, _, rfl, p0k, _, _, rfl, ⟨p1, rfl, p1lo, p1hi⟩, rfl⟩ := hk
  exact h p0 p1 p0k p1lo p1hi)
theorem ok_span_valid : SumOK Tryz.prog InvN S_span_valid := okA_span_valid (by
  intro p0 p1 _ _ _
  rw [okB_span_valid]
  rfl)
noncomputable def F_span_valid (p0 : Value) (p1 : Int) : Bool := tru ((L_span_valid [p0, .int .u16 p1]).getD 0 undef)
theorem F_span_valid_eq (p0 : Value) (p1 : Int) : F_span_valid p0 p1 =
    bif (pre_span_every_V [p0, (PK [(PK [.int .u16 p1])])]) then
      (let x0 := F_span_every_V p0 (PK [(PK [.int .u16 p1])])
      x0)
    else
      ((tru undef)) :=
  spellV (L := L_span_valid) (fun l => tru ((l).getD 0 undef)) (evFM ⟨[C_span_every_T, C_span_every_S, C_span_every_O, C_span_every_V], []⟩ Tryz.prog [S_sample_Valid] 1000 15 (inL A_span_valid [p0, .int .u16 p1]) R_span_valid) (L_span_valid_is _) (by kernel_rfl)

/-! compositor/span.Composite$1 -/
def A_span_Composite_1 : List PS := [.agg [.i .u16, .i .u16, .i .u16, .i .u16, .i .u16], .agg [.i .u16, .i .u16, .i .u16, .i .u16, .i .u16], .c (.q [.i .i64]), .c (.q [.i .i64]), .c (.q [.i .u16])]
def R_span_Composite_1 : RS := .tup [.agg [.i .u16, .i .u16, .i .u16, .i .u16, .i .u16], .c (.b)]
noncomputable def L_span_Composite_1 : List Value → List Value := Classical.choose (veil fun vs => (evFM ⟨[], []⟩ Tryz.prog [S_pixel_Composite] 1000 19 (inL A_span_Composite_1 vs) R_span_Composite_1).outL)
theorem L_span_Composite_1_is (vs : List Value) : L_span_Composite_1 vs = (evFM ⟨[], []⟩ Tryz.prog [S_pixel_Composite] 1000 19 (inL A_span_Composite_1 vs) R_span_Composite_1).outL := Classical.choose_spec (veil fun vs => (evFM ⟨[], []⟩ Tryz.prog [S_pixel_Composite] 1000 19 (inL A_span_Composite_1 vs) R_span_Composite_1).outL) vs
noncomputable def S_span_Composite_1 : Sum := ⟨19, L_span_Composite_1, A_span_Composite_1, R_span_Composite_1⟩
theorem env_span_Composite_1 : EnvOK Tryz.prog InvN ⟨[], []⟩ ∧ AllOK Tryz.prog InvN [S_pixel_Composite] := ⟨⟨allC_nil, allL_nil⟩, (allOK_cons ok_pixel_Composite allOK_nil)⟩
theorem okG_span_Composite_1 (vs : List Value) : (evFM ⟨[], []⟩ Tryz.prog [S_pixel_Composite] 1000 19 (inL A_span_Composite_1 vs) R_span_Composite_1).goodX R_span_Composite_1 = true := by kernel_rfl
theorem ok_span_Composite_1 : SumOK Tryz.prog InvN S_span_Composite_1 := sumOK_partL invN_stays env_span_Composite_1.1 env_span_Composite_1.2 1000 19 A_span_Composite_1 R_span_Composite_1 L_span_Composite_1_is okG_span_Composite_1 (fun vs _ => ok_of_sure (t := evFM ⟨[], []⟩ Tryz.prog [S_pixel_Composite] 1000 19 (inL A_span_Composite_1 vs) R_span_Composite_1) (by kernel_rfl))
noncomputable def F_span_Composite_1 (p0 : Int) (p1 : Int) (p2 : Int) (p3 : Int) (p4 : Int) (p5 : Int) (p6 : Int) (p7 : Int) (p8 : Int) (p9 : Int) (p10 : Value) (p11 : Value) (p12 : Value) : Int × Int × Int × Int × Int × Bool := (num ((L_span_Composite_1 [.int .u16 p0, .int .u16 p1, .int .u16 p2, .int .u16 p3, .int .u16 p4, .int .u16 p5, .int .u16 p6, .int .u16 p7, .int .u16 p8, .int .u16 p9, p10, p11, p12]).getD 0 undef), num ((L_span_Composite_1 [.int .u16 p0, .int .u16 p1, .int .u16 p2, .int .u16 p3, .int .u16 p4, .int .u16 p5, .int .u16 p6, .int .u16 p7, .int .u16 p8, .int .u16 p9, p10, p11, p12]).getD 1 undef), num ((L_span_Composite_1 [.int .u16 p0, .int .u16 p1, .int .u16 p2, .int .u16 p3, .int .u16 p4, .int .u16 p5, .int .u16 p6, .int .u16 p7, .int .u16 p8, .int .u16 p9, p10, p11, p12]).getD 2 undef), num ((L_span_Composite_1 [.int .u16 p0, .int .u16 p1, .int .u16 p2, .int .u16 p3, .int .u16 p4, .int .u16 p5, .int .u16 p6, .int .u16 p7, .int .u16 p8, .int .u16 p9, p10, p11, p12]).getD 3 undef), num ((L_span_Composite_1 [.int .u16 p0, .int .u16 p1, .int .u16 p2, .int .u16 p3, .int .u16 p4, .int .u16 p5, .int .u16 p6, .int .u16 p7, .int .u16 p8, .int .u16 p9, p10, p11, p12]).getD 4 undef), tru ((L_span_Composite_1 [.int .u16 p0, .int .u16 p1, .int .u16 p2, .int .u16 p3, .int .u16 p4, .int .u16 p5, .int .u16 p6, .int .u16 p7, .int .u16 p8, .int .u16 p9, p10, p11, p12]).getD 5 undef))
theorem F_span_Composite_1_eq (p0 : Int) (p1 : Int) (p2 : Int) (p3 : Int) (p4 : Int) (p5 : Int) (p6 : Int) (p7 : Int) (p8 : Int) (p9 : Int) (p10 : Value) (p11 : Value) (p12 : Value) : F_span_Composite_1 p0 p1 p2 p3 p4 p5 p6 p7 p8 p9 p10 p11 p12 =
    let x0 := F_pixel_Composite (num (CV p10 0)) (num (CV p11 0)) (num (CV p12 0)) p0 p1 p2 p3 p4 p5 p6 p7 p8 p9
    (x0.1, x0.2.1, x0.2.2.1, x0.2.2.2.1, x0.2.2.2.2.1, x0.2.2.2.2.2) :=
  spellV (L := L_span_Composite_1) (fun l => (num ((l).getD 0 undef), num ((l).getD 1 undef), num ((l).getD 2 undef), num ((l).getD 3 undef), num ((l).getD 4 undef), tru ((l).getD 5 undef))) (evFM ⟨[], []⟩ Tryz.prog [S_pixel_Composite] 1000 19 (inL A_span_Composite_1 [.int .u16 p0, .int .u16 p1, .int .u16 p2, .int .u16 p3, .int .u16 p4, .int .u16 p5, .int .u16 p6, .int .u16 p7, .int .u16 p8, .int .u16 p9, p10, p11, p12]) R_span_Composite_1) (L_span_Composite_1_is _) (by kernel_rfl)
end Go.Proofs.YtfjhhadmncjdiaaGreatDoor
