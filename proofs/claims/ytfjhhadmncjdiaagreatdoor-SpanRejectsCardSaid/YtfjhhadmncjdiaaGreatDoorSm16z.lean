/- Rows that are rejected: contracts, the law SpanRejects. Printed by a program (gen/Gen2.lean) but for the loops' proofs; what each function does is told by the evaluator, and the kernel checks it. No condition. -/
import Derived.Test.YtfjhhadmncjdiaaGreatDoorRwT
import Derived.Test.YtfjhhadmncjdiaaGreatDoorLaw09
import Derived.Test.YtfjhhadmncjdiaaGreatDoorFrm
import Derived.KernelRfl
import Derived.Shelf.Spec.TrailingZeros
import Derived.Laws.Bits64b
namespace Go.Proofs.YtfjhhadmncjdiaaGreatDoor
set_option maxRecDepth 100000
open Go.RowKit

/-! compositor/compositorref06.Scale -/
def A_ref06_Scale : List PS := [.agg [.i .u16, .i .u16, .i .u16, .i .u16, .i .u16], .c (.i .u16), .c (.i .u16)]
def R_ref06_Scale : RS := .tup [.agg [.i .u16, .i .u16, .i .u16, .i .u16, .i .u16], .c (.b)]
def head_ref06_Scale_5 : Shp := ⟨[.any, .p (.c (.h (.i .u16))), .p (.c (.h (.i .u16))), .p (.c (.p 0 0)), .any, .any, .p (.c (.p 1 0)), .any, .p (.c (.p 2 0)), .p (.c (.h (.i .i64))), .any, .any, .any, .any, .any, .any, .any, .any, .any, .any, .any, .any, .any, .any, .any, .any, .any, .any, .any, .any, .any, .any, .any, .any, .any, .any, .any, .any, .any, .any, .any, .any, .any, .any, .any, .any, .any, .any, .any, .any, .any, .any, .any, .any, .any, .any, .any, .any, .any, .any, .any, .any, .any, .any, .any, .any, .any], [(0, ⟨[.h (.i .u16), .h (.i .u16), .h (.i .u16), .h (.i .u16), .h (.i .u16)], 28, true, none⟩), (1, ⟨[.h (.i .u16), .h (.i .u16), .h (.i .u16), .h (.i .u16), .h (.i .u16)], 28, true, none⟩), (2, ⟨[.h (.i .u16), .h (.i .u16), .h (.i .u16), .h (.i .u16), .h (.i .u16)], 28, true, none⟩)]⟩
def outs_ref06_Scale_5 : List (Xt × Shp × Nat) := [(.exit 0, ⟨[.any, .p (.c (.h (.i .u16))), .p (.c (.h (.i .u16))), .p (.c (.p 0 0)), .any, .any, .p (.c (.p 1 0)), .any, .p (.c (.p 2 0)), .any, .any, .any, .any, .any, .any, .any, .any, .any, .any, .any, .any, .any, .any, .any, .any, .any, .any, .any, .any, .any, .any, .any, .any, .any, .any, .any, .any, .any, .any, .any, .any, .any, .any, .any, .any, .any, .any, .any, .any, .any, .any, .any, .any, .any, .any, .any, .any, .any, .any, .any, .any, .any, .any, .any, .any, .any, .any], [(0, ⟨[.h (.i .u16), .h (.i .u16), .h (.i .u16), .h (.i .u16), .h (.i .u16)], 28, true, none⟩), (1, ⟨[.h (.i .u16), .h (.i .u16), .h (.i .u16), .h (.i .u16), .h (.i .u16)], 28, true, none⟩), (2, ⟨[.h (.i .u16), .h (.i .u16), .h (.i .u16), .h (.i .u16), .h (.i .u16)], 28, true, none⟩)]⟩, 3)]
noncomputable def OUT_ref06_Scale_5 (p0 : Int) (p1 : Int) (p2 : Int) (p3 : Int) (p4 : Int) (p5 : Int) (p6 : Int) (p7 : Int) (p8 : Int) (p9 : Int) (p10 : Int) (p11 : Int) (p12 : Int) (p13 : Int) (p14 : Int) (p15 : Int) (p16 : Int) (p17 : Int) : List Value :=
    bif (decide (p2 < 3)) then
      (bif (p2 == 0) then
        (bif (p2 == 0) then
          (let x0 := F_ref01_Half (IntKind.u64.wrap (p3 * p0)) p1
          [.int .i64 (-1), .int .u16 p0, .int .u16 p1, .int .i64 (IntKind.i64.wrap (p2 + 1)), .int .u16 p3, .int .u16 p4, .int .u16 p5, .int .u16 p6, .int .u16 p7, .int .u16 p8, .int .u16 p9, .int .u16 p10, .int .u16 p11, .int .u16 p12, .int .u16 (IntKind.u16.wrap x0), .int .u16 p14, .int .u16 p15, .int .u16 p16, .int .u16 p17])
        else
          (bif (p2 == 1) then
            (let x1 := F_ref01_Half (IntKind.u64.wrap (p3 * p0)) p1
            [.int .i64 (-1), .int .u16 p0, .int .u16 p1, .int .i64 (IntKind.i64.wrap (p2 + 1)), .int .u16 p3, .int .u16 p4, .int .u16 p5, .int .u16 p6, .int .u16 p7, .int .u16 p8, .int .u16 p9, .int .u16 p10, .int .u16 p11, .int .u16 p12, .int .u16 p13, .int .u16 (IntKind.u16.wrap x1), .int .u16 p15, .int .u16 p16, .int .u16 p17])
          else
            (bif (p2 == 2) then
              (let x2 := F_ref01_Half (IntKind.u64.wrap (p3 * p0)) p1
              [.int .i64 (-1), .int .u16 p0, .int .u16 p1, .int .i64 (IntKind.i64.wrap (p2 + 1)), .int .u16 p3, .int .u16 p4, .int .u16 p5, .int .u16 p6, .int .u16 p7, .int .u16 p8, .int .u16 p9, .int .u16 p10, .int .u16 p11, .int .u16 p12, .int .u16 p13, .int .u16 p14, .int .u16 (IntKind.u16.wrap x2), .int .u16 p16, .int .u16 p17])
            else
              ([]))))
      else
        (bif (p2 == 1) then
          (bif (p2 == 0) then
            (let x3 := F_ref01_Half (IntKind.u64.wrap (p4 * p0)) p1
            [.int .i64 (-1), .int .u16 p0, .int .u16 p1, .int .i64 (IntKind.i64.wrap (p2 + 1)), .int .u16 p3, .int .u16 p4, .int .u16 p5, .int .u16 p6, .int .u16 p7, .int .u16 p8, .int .u16 p9, .int .u16 p10, .int .u16 p11, .int .u16 p12, .int .u16 (IntKind.u16.wrap x3), .int .u16 p14, .int .u16 p15, .int .u16 p16, .int .u16 p17])
          else
            (bif (p2 == 1) then
              (let x4 := F_ref01_Half (IntKind.u64.wrap (p4 * p0)) p1
              [.int .i64 (-1), .int .u16 p0, .int .u16 p1, .int .i64 (IntKind.i64.wrap (p2 + 1)), .int .u16 p3, .int .u16 p4, .int .u16 p5, .int .u16 p6, .int .u16 p7, .int .u16 p8, .int .u16 p9, .int .u16 p10, .int .u16 p11, .int .u16 p12, .int .u16 p13, .int .u16 (IntKind.u16.wrap x4), .int .u16 p15, .int .u16 p16, .int .u16 p17])
            else
              (bif (p2 == 2) then
                (let x5 := F_ref01_Half (IntKind.u64.wrap (p4 * p0)) p1
                [.int .i64 (-1), .int .u16 p0, .int .u16 p1, .int .i64 (IntKind.i64.wrap (p2 + 1)), .int .u16 p3, .int .u16 p4, .int .u16 p5, .int .u16 p6, .int .u16 p7, .int .u16 p8, .int .u16 p9, .int .u16 p10, .int .u16 p11, .int .u16 p12, .int .u16 p13, .int .u16 p14, .int .u16 (IntKind.u16.wrap x5), .int .u16 p16, .int .u16 p17])
              else
                ([]))))
        else
          (bif (p2 == 2) then
            (bif (p2 == 0) then
              (let x6 := F_ref01_Half (IntKind.u64.wrap (p5 * p0)) p1
              [.int .i64 (-1), .int .u16 p0, .int .u16 p1, .int .i64 (IntKind.i64.wrap (p2 + 1)), .int .u16 p3, .int .u16 p4, .int .u16 p5, .int .u16 p6, .int .u16 p7, .int .u16 p8, .int .u16 p9, .int .u16 p10, .int .u16 p11, .int .u16 p12, .int .u16 (IntKind.u16.wrap x6), .int .u16 p14, .int .u16 p15, .int .u16 p16, .int .u16 p17])
            else
              (bif (p2 == 1) then
                (let x7 := F_ref01_Half (IntKind.u64.wrap (p5 * p0)) p1
                [.int .i64 (-1), .int .u16 p0, .int .u16 p1, .int .i64 (IntKind.i64.wrap (p2 + 1)), .int .u16 p3, .int .u16 p4, .int .u16 p5, .int .u16 p6, .int .u16 p7, .int .u16 p8, .int .u16 p9, .int .u16 p10, .int .u16 p11, .int .u16 p12, .int .u16 p13, .int .u16 (IntKind.u16.wrap x7), .int .u16 p15, .int .u16 p16, .int .u16 p17])
              else
                (bif (p2 == 2) then
                  (let x8 := F_ref01_Half (IntKind.u64.wrap (p5 * p0)) p1
                  [.int .i64 (-1), .int .u16 p0, .int .u16 p1, .int .i64 (IntKind.i64.wrap (p2 + 1)), .int .u16 p3, .int .u16 p4, .int .u16 p5, .int .u16 p6, .int .u16 p7, .int .u16 p8, .int .u16 p9, .int .u16 p10, .int .u16 p11, .int .u16 p12, .int .u16 p13, .int .u16 p14, .int .u16 (IntKind.u16.wrap x8), .int .u16 p16, .int .u16 p17])
                else
                  ([]))))
          else
            ([]))))
    else
      ([.int .i64 0, .int .u16 p0, .int .u16 p1, .int .u16 p3, .int .u16 p4, .int .u16 p5, .int .u16 p6, .int .u16 p7, .int .u16 p8, .int .u16 p9, .int .u16 p10, .int .u16 p11, .int .u16 p12, .int .u16 p13, .int .u16 p14, .int .u16 p15, .int .u16 p16, .int .u16 p17])
noncomputable def OL_ref06_Scale_5 (xs : List Value) : List Value := OUT_ref06_Scale_5 (num (xs.getD 0 undef)) (num (xs.getD 1 undef)) (num (xs.getD 2 undef)) (num (xs.getD 3 undef)) (num (xs.getD 4 undef)) (num (xs.getD 5 undef)) (num (xs.getD 6 undef)) (num (xs.getD 7 undef)) (num (xs.getD 8 undef)) (num (xs.getD 9 undef)) (num (xs.getD 10 undef)) (num (xs.getD 11 undef)) (num (xs.getD 12 undef)) (num (xs.getD 13 undef)) (num (xs.getD 14 undef)) (num (xs.getD 15 undef)) (num (xs.getD 16 undef)) (num (xs.getD 17 undef))
noncomputable def LF_ref06_Scale_5 : List Value → List Value := LFof OL_ref06_Scale_5
def pre_ref06_Scale_5 (xs : List Value) : Bool := decide (0 ≤ num (xs.getD 2 undef)) && decide (num (xs.getD 2 undef) ≤ 3)
noncomputable def LC_ref06_Scale_5 : LoopC := ⟨48, 5, LF_ref06_Scale_5, pre_ref06_Scale_5, 3, head_ref06_Scale_5, outs_ref06_Scale_5⟩
theorem LF_ref06_Scale_5_go (p0 : Int) (p1 : Int) (p2 : Int) (p3 : Int) (p4 : Int) (p5 : Int) (p6 : Int) (p7 : Int) (p8 : Int) (p9 : Int) (p10 : Int) (p11 : Int) (p12 : Int) (p13 : Int) (p14 : Int) (p15 : Int) (p16 : Int) (p17 : Int) : LF_ref06_Scale_5 [.int .u16 p0, .int .u16 p1, .int .i64 p2, .int .u16 p3, .int .u16 p4, .int .u16 p5, .int .u16 p6, .int .u16 p7, .int .u16 p8, .int .u16 p9, .int .u16 p10, .int .u16 p11, .int .u16 p12, .int .u16 p13, .int .u16 p14, .int .u16 p15, .int .u16 p16, .int .u16 p17] = goOn LF_ref06_Scale_5 (OUT_ref06_Scale_5 p0 p1 p2 p3 p4 p5 p6 p7 p8 p9 p10 p11 p12 p13 p14 p15 p16 p17) := LFof_eq _ _
theorem okBL_ref06_Scale_5 (p0 : Int) (p1 : Int) (p2 : Int) (p3 : Int) (p4 : Int) (p5 : Int) (p6 : Int) (p7 : Int) (p8 : Int) (p9 : Int) (p10 : Int) (p11 : Int) (p12 : Int) (p13 : Int) (p14 : Int) (p15 : Int) (p16 : Int) (p17 : Int) : (evL ⟨[], []⟩ Tryz.prog [S_ref01_Half, S_ref01_Full, S_ref01_ValidPixel] 1000 LC_ref06_Scale_5 [.int .u16 p0, .int .u16 p1, .int .i64 p2, .int .u16 p3, .int .u16 p4, .int .u16 p5, .int .u16 p6, .int .u16 p7, .int .u16 p8, .int .u16 p9, .int .u16 p10, .int .u16 p11, .int .u16 p12, .int .u16 p13, .int .u16 p14, .int .u16 p15, .int .u16 p16, .int .u16 p17]).ok =
    bif (decide (p2 < 3)) then
      (bif (p2 == 0) then
        (bif (p2 == 0) then
          (true)
        else
          (bif (p2 == 1) then
            (true)
          else
            (bif (p2 == 2) then
              (true)
            else
              (false))))
      else
        (bif (p2 == 1) then
          (bif (p2 == 0) then
            (true)
          else
            (bif (p2 == 1) then
              (true)
            else
              (bif (p2 == 2) then
                (true)
              else
                (false))))
        else
          (bif (p2 == 2) then
            (bif (p2 == 0) then
              (true)
            else
              (bif (p2 == 1) then
                (true)
              else
                (bif (p2 == 2) then
                  (true)
                else
                  (false))))
          else
            (false))))
    else
      (true) := (okR_eq _).trans (by kernel_rfl)
theorem step_ref06_Scale_5 (p0 : Int) (p1 : Int) (p2 : Int) (p3 : Int) (p4 : Int) (p5 : Int) (p6 : Int) (p7 : Int) (p8 : Int) (p9 : Int) (p10 : Int) (p11 : Int) (p12 : Int) (p13 : Int) (p14 : Int) (p15 : Int) (p16 : Int) (p17 : Int) : (evL ⟨[], []⟩ Tryz.prog [S_ref01_Half, S_ref01_Full, S_ref01_ValidPixel] 1000 LC_ref06_Scale_5 [.int .u16 p0, .int .u16 p1, .int .i64 p2, .int .u16 p3, .int .u16 p4, .int .u16 p5, .int .u16 p6, .int .u16 p7, .int .u16 p8, .int .u16 p9, .int .u16 p10, .int .u16 p11, .int .u16 p12, .int .u16 p13, .int .u16 p14, .int .u16 p15, .int .u16 p16, .int .u16 p17]).outL = OUT_ref06_Scale_5 p0 p1 p2 p3 p4 p5 p6 p7 p8 p9 p10 p11 p12 p13 p14 p15 p16 p17 := (fold_eq (fun l => l) _).trans (by kernel_rfl)
theorem one_ref06_Scale_5 : (loopsBy Tryz.prog 48 5).length = 1 := by kernel_rfl
theorem env_ref06_Scale_5 : EnvOK Tryz.prog InvN ⟨[], []⟩ ∧ AllOK Tryz.prog InvN [S_ref01_Half, S_ref01_Full, S_ref01_ValidPixel] := ⟨⟨allC_nil, allL_nil⟩, (allOK_cons ok_ref01_Half.any (allOK_cons ok_ref01_Full.any (allOK_cons ok_ref01_ValidPixel allOK_nil)))⟩
theorem lp_ref06_Scale_5 (meas : List Value → Nat) (h : ∀ p0 p1 p2 p3 p4 p5 p6 p7 p8 p9 p10 p11 p12 p13 p14 p15 p16 p17, IntKind.u16.min ≤ p0 → p0 ≤ IntKind.u16.max → IntKind.u16.min ≤ p1 → p1 ≤ IntKind.u16.max → IntKind.i64.min ≤ p2 → p2 ≤ IntKind.i64.max → IntKind.u16.min ≤ p3 → p3 ≤ IntKind.u16.max → IntKind.u16.min ≤ p4 → p4 ≤ IntKind.u16.max → IntKind.u16.min ≤ p5 → p5 ≤ IntKind.u16.max → IntKind.u16.min ≤ p6 → p6 ≤ IntKind.u16.max → IntKind.u16.min ≤ p7 → p7 ≤ IntKind.u16.max → IntKind.u16.min ≤ p8 → p8 ≤ IntKind.u16.max → IntKind.u16.min ≤ p9 → p9 ≤ IntKind.u16.max → IntKind.u16.min ≤ p10 → p10 ≤ IntKind.u16.max → IntKind.u16.min ≤ p11 → p11 ≤ IntKind.u16.max → IntKind.u16.min ≤ p12 → p12 ≤ IntKind.u16.max → IntKind.u16.min ≤ p13 → p13 ≤ IntKind.u16.max → IntKind.u16.min ≤ p14 → p14 ≤ IntKind.u16.max → IntKind.u16.min ≤ p15 → p15 ≤ IntKind.u16.max → IntKind.u16.min ≤ p16 → p16 ≤ IntKind.u16.max → IntKind.u16.min ≤ p17 → p17 ≤ IntKind.u16.max → pre_ref06_Scale_5 [.int .u16 p0, .int .u16 p1, .int .i64 p2, .int .u16 p3, .int .u16 p4, .int .u16 p5, .int .u16 p6, .int .u16 p7, .int .u16 p8, .int .u16 p9, .int .u16 p10, .int .u16 p11, .int .u16 p12, .int .u16 p13, .int .u16 p14, .int .u16 p15, .int .u16 p16, .int .u16 p17] = true → (evL ⟨[], []⟩ Tryz.prog [S_ref01_Half, S_ref01_Full, S_ref01_ValidPixel] 1000 LC_ref06_Scale_5 [.int .u16 p0, .int .u16 p1, .int .i64 p2, .int .u16 p3, .int .u16 p4, .int .u16 p5, .int .u16 p6, .int .u16 p7, .int .u16 p8, .int .u16 p9, .int .u16 p10, .int .u16 p11, .int .u16 p12, .int .u16 p13, .int .u16 p14, .int .u16 p15, .int .u16 p16, .int .u16 p17]).ok = true ∧ okO pre_ref06_Scale_5 meas (meas [.int .u16 p0, .int .u16 p1, .int .i64 p2, .int .u16 p3, .int .u16 p4, .int .u16 p5, .int .u16 p6, .int .u16 p7, .int .u16 p8, .int .u16 p9, .int .u16 p10, .int .u16 p11, .int .u16 p12, .int .u16 p13, .int .u16 p14, .int .u16 p15, .int .u16 p16, .int .u16 p17]) (OUT_ref06_Scale_5 p0 p1 p2 p3 p4 p5 p6 p7 p8 p9 p10 p11 p12 p13 p14 p15 p16 p17)) : LoopTrue Tryz.prog InvN LC_ref06_Scale_5 := loop_lf env_ref06_Scale_5 1000 LC_ref06_Scale_5 one_ref06_Scale_5 meas OL_ref06_Scale_5 rfl (fun xs hk hp => by
  have hk : KindsL [.i .u16, .i .u16, .i .i64, .i .u16, .i .u16, .i .u16, .i .u16, .i .u16, .i .u16, .i .u16, .i .u16, .i .u16, .i .u16, .i .u16, .i .u16, .i .u16, .i .u16, .i .u16] xs := hk
  obtain ⟨_, _, rfl, ⟨p0, rfl, p0lo, p0hi⟩, _, _, rfl, ⟨p1, rfl, p1lo, p1hi⟩, _, _, rfl, ⟨p2, rfl, p2lo, p2hi⟩, _, _, rfl, ⟨p3, rfl, p3lo, p3hi⟩, _, _, rfl, ⟨p4, rfl, p4lo, p4hi⟩, _, _, rfl, ⟨p5, rfl, p5lo, p5hi⟩, _, _, rfl, ⟨p6, rfl, p6lo, p6hi⟩, _, _, rfl, ⟨p7, rfl, p7lo, p7hi⟩, _, _, rfl, ⟨p8, rfl, p8lo, p8hi⟩, _, _, rfl, ⟨p9, rfl, p9lo, p9hi⟩, _, _, rfl, ⟨p10, rfl, p10lo, p10hi⟩, _, _, rfl, ⟨p11, rfl, p11lo, p11hi⟩, _, _, rfl, ⟨p12, rfl, p12lo, p12hi⟩, _, _, rfl, ⟨p13, rfl, p13lo, p13hi⟩, _, _, rfl, ⟨p14, rfl, p14lo, p14hi⟩, _, _, rfl, ⟨p15, rfl, p15lo, p15hi⟩, _, _, rfl, ⟨p16, rfl, p16lo, p16hi⟩, _, _, rfl, ⟨p17, rfl, p17lo, p17hi⟩, rfl⟩ := hk
  have h := h p0 p1 p2 p3 p4 p5 p6 p7 p8 p9 p10 p11 p12 p13 p14 p15 p16 p17 p0lo p0hi p1lo p1hi p2lo p2hi p3lo p3hi p4lo p4hi p5lo p5hi p6lo p6hi p7lo p7hi p8lo p8hi p9lo p9hi p10lo p10hi p11lo p11hi p12lo p12hi p13lo p13hi p14lo p14hi p15lo p15hi p16lo p16hi p17lo p17hi hp
  exact ⟨h.1, step_ref06_Scale_5 p0 p1 p2 p3 p4 p5 p6 p7 p8 p9 p10 p11 p12 p13 p14 p15 p16 p17, h.2⟩)
theorem ok_ref06_Scale_5 : LoopTrue Tryz.prog InvN LC_ref06_Scale_5 := lp_ref06_Scale_5 (fun xs => (3 - num (xs.getD 2 undef)).toNat) (by
  intro p0 p1 p2 p3 p4 p5 p6 p7 p8 p9 p10 p11 p12 p13 p14 p15 p16 p17 _ _ _ _ _ _ _ _ _ _ _ _ _ _ _ _ _ _ _ _ _ _ _ _ _ _ _ _ _ _ _ _ _ _ _ _ hp
  have hp : (decide (0 ≤ p2) && decide (p2 ≤ 3)) = true := hp
  simp only [Bool.and_eq_true, decide_eq_true_eq] at hp
  have nx : ∀ ys, p2 < 3 → okO pre_ref06_Scale_5 (fun xs => (3 - num (xs.getD 2 undef)).toNat) (3 - p2).toNat (.int .i64 (-1) :: .int .u16 p0 :: .int .u16 p1 :: .int .i64 (IntKind.i64.wrap (p2 + 1)) :: ys) := fun ys h => okO_next (by
    show (decide (0 ≤ IntKind.i64.wrap (p2 + 1)) && decide (IntKind.i64.wrap (p2 + 1) ≤ 3)) = true
    rw [i64_in (by omega) (by omega)]
    simp only [Bool.and_eq_true, decide_eq_true_eq]
    omega) (by
    show (3 - IntKind.i64.wrap (p2 + 1)).toNat < _
    rw [i64_in (by omega) (by omega)]
    omega)
  rw [okBL_ref06_Scale_5]
  refine ⟨bif_ok (fun h => ?_) (fun _ => rfl), ?_⟩
  · have h : p2 < 3 := of_decide_eq_true h
    have : p2 = 0 ∨ p2 = 1 ∨ p2 = 2 := by omega
    rcases this with rfl | rfl | rfl <;> rfl
  · unfold OUT_ref06_Scale_5
    dsimp only
    refine okO_bif (fun h => ?_) (fun _ => okO_exit 0)
    have h : p2 < 3 := of_decide_eq_true h
    have : p2 = 0 ∨ p2 = 1 ∨ p2 = 2 := by omega
    rcases this with rfl | rfl | rfl <;> simp only [Int.reduceBEq, cond_true, cond_false] <;> exact nx _ (by decide))
noncomputable def L_ref06_Scale : List Value → List Value := Classical.choose (veil fun vs => (evFM ⟨[], [LC_ref06_Scale_5]⟩ Tryz.prog [S_ref01_Half, S_ref01_Full, S_ref01_ValidPixel] 1000 48 (inL A_ref06_Scale vs) R_ref06_Scale).outL)
theorem L_ref06_Scale_is (vs : List Value) : L_ref06_Scale vs = (evFM ⟨[], [LC_ref06_Scale_5]⟩ Tryz.prog [S_ref01_Half, S_ref01_Full, S_ref01_ValidPixel] 1000 48 (inL A_ref06_Scale vs) R_ref06_Scale).outL := Classical.choose_spec (veil fun vs => (evFM ⟨[], [LC_ref06_Scale_5]⟩ Tryz.prog [S_ref01_Half, S_ref01_Full, S_ref01_ValidPixel] 1000 48 (inL A_ref06_Scale vs) R_ref06_Scale).outL) vs
noncomputable def S_ref06_Scale : Sum := ⟨48, L_ref06_Scale, A_ref06_Scale, R_ref06_Scale⟩
theorem env_ref06_Scale : EnvOK Tryz.prog InvN ⟨[], [LC_ref06_Scale_5]⟩ ∧ AllOK Tryz.prog InvN [S_ref01_Half, S_ref01_Full, S_ref01_ValidPixel] := ⟨⟨allC_nil, (allL_cons ok_ref06_Scale_5 allL_nil)⟩, (allOK_cons ok_ref01_Half.any (allOK_cons ok_ref01_Full.any (allOK_cons ok_ref01_ValidPixel allOK_nil)))⟩
theorem okG_ref06_Scale (vs : List Value) : (evFM ⟨[], [LC_ref06_Scale_5]⟩ Tryz.prog [S_ref01_Half, S_ref01_Full, S_ref01_ValidPixel] 1000 48 (inL A_ref06_Scale vs) R_ref06_Scale).goodX R_ref06_Scale = true := by kernel_rfl
theorem okB_ref06_Scale (p0 : Int) (p1 : Int) (p2 : Int) (p3 : Int) (p4 : Int) (p5 : Int) (p6 : Int) : (evFM ⟨[], [LC_ref06_Scale_5]⟩ Tryz.prog [S_ref01_Half, S_ref01_Full, S_ref01_ValidPixel] 1000 48 (inL A_ref06_Scale [.int .u16 p0, .int .u16 p1, .int .u16 p2, .int .u16 p3, .int .u16 p4, .int .u16 p5, .int .u16 p6]) R_ref06_Scale).ok =
    let x0 := F_ref01_Full p6
    bif (!x0) then
      (true)
    else
      (let x1 := F_ref01_ValidPixel p0 p1 p2 p3 p4 p6
      bif (!x1) then
        (true)
      else
        (bif (decide (p5 > p6)) then
          (true)
        else
          (bif (pre_ref06_Scale_5 [.int .u16 p5, .int .u16 p6, .int .i64 0, .int .u16 p0, .int .u16 p1, .int .u16 p2, .int .u16 p3, .int .u16 p4, .int .u16 0, .int .u16 0, .int .u16 0, .int .u16 0, .int .u16 0, .int .u16 0, .int .u16 0, .int .u16 0, .int .u16 0, .int .u16 0]) then
            (true)
          else
            (false)))) := (okR_eq _).trans (by kernel_rfl)
theorem okA_ref06_Scale (h : ∀ p0 p1 p2 p3 p4 p5 p6 , IntKind.u16.min ≤ p0 → p0 ≤ IntKind.u16.max → IntKind.u16.min ≤ p1 → p1 ≤ IntKind.u16.max → IntKind.u16.min ≤ p2 → p2 ≤ IntKind.u16.max → IntKind.u16.min ≤ p3 → p3 ≤ IntKind.u16.max → IntKind.u16.min ≤ p4 → p4 ≤ IntKind.u16.max → IntKind.u16.min ≤ p5 → p5 ≤ IntKind.u16.max → IntKind.u16.min ≤ p6 → p6 ≤ IntKind.u16.max → (evFM ⟨[], [LC_ref06_Scale_5]⟩ Tryz.prog [S_ref01_Half, S_ref01_Full, S_ref01_ValidPixel] 1000 48 (inL A_ref06_Scale [.int .u16 p0, .int .u16 p1, .int .u16 p2, .int .u16 p3, .int .u16 p4, .int .u16 p5, .int .u16 p6]) R_ref06_Scale).ok = true) : SumOK Tryz.prog InvN S_ref06_Scale := sumOK_partL invN_stays env_ref06_Scale.1 env_ref06_Scale.2 1000 48 A_ref06_Scale R_ref06_Scale L_ref06_Scale_is okG_ref06_Scale (fun vs hk => by
  obtain ⟨_, _, rfl, ⟨p0, rfl, p0lo, p0hi⟩, _, _, rfl, ⟨p1, rfl, p1lo, p1hi⟩, _, _, rfl, ⟨p2, rfl, p2lo, p2hi⟩, _, _, rfl, ⟨p3, rfl, p3lo, p3hi⟩, _, _, rfl, ⟨p4, rfl, p4lo, p4hi⟩, _, _, rfl, ⟨p5, rfl, p5lo, p5hi⟩, _, _, rfl, ⟨p6, rfl, p6lo, p6hi⟩, rfl⟩ := hk
  exact h p0 p1 p2 p3 p4 p5 p6 p0lo p0hi p1lo p1hi p2lo p2hi p3lo p3hi p4lo p4hi p5lo p5hi p6lo p6hi)
theorem ok_ref06_Scale : SumOK Tryz.prog InvN S_ref06_Scale := okA_ref06_Scale (by
  intro p0 p1 p2 p3 p4 p5 p6 _ _ _ _ _ _ _ _ _ _ _ _ _ _ 
  rw [okB_ref06_Scale]
  refine bif_ok (fun _ => rfl) fun _ => ?_
  refine bif_ok (fun _ => rfl) fun _ => ?_
  refine bif_ok (fun _ => rfl) fun _ => ?_
  exact bif_ok (fun _ => rfl) (fun h => bool_no (c := true) rfl h))
noncomputable def F_ref06_Scale (p0 : Int) (p1 : Int) (p2 : Int) (p3 : Int) (p4 : Int) (p5 : Int) (p6 : Int) : Int × Int × Int × Int × Int × Bool := (num ((L_ref06_Scale [.int .u16 p0, .int .u16 p1, .int .u16 p2, .int .u16 p3, .int .u16 p4, .int .u16 p5, .int .u16 p6]).getD 0 undef), num ((L_ref06_Scale [.int .u16 p0, .int .u16 p1, .int .u16 p2, .int .u16 p3, .int .u16 p4, .int .u16 p5, .int .u16 p6]).getD 1 undef), num ((L_ref06_Scale [.int .u16 p0, .int .u16 p1, .int .u16 p2, .int .u16 p3, .int .u16 p4, .int .u16 p5, .int .u16 p6]).getD 2 undef), num ((L_ref06_Scale [.int .u16 p0, .int .u16 p1, .int .u16 p2, .int .u16 p3, .int .u16 p4, .int .u16 p5, .int .u16 p6]).getD 3 undef), num ((L_ref06_Scale [.int .u16 p0, .int .u16 p1, .int .u16 p2, .int .u16 p3, .int .u16 p4, .int .u16 p5, .int .u16 p6]).getD 4 undef), tru ((L_ref06_Scale [.int .u16 p0, .int .u16 p1, .int .u16 p2, .int .u16 p3, .int .u16 p4, .int .u16 p5, .int .u16 p6]).getD 5 undef))
theorem F_ref06_Scale_eq (p0 : Int) (p1 : Int) (p2 : Int) (p3 : Int) (p4 : Int) (p5 : Int) (p6 : Int) : F_ref06_Scale p0 p1 p2 p3 p4 p5 p6 =
    let x0 := F_ref01_Full p6
    bif (!x0) then
      ((0, 0, 0, 0, 0, false))
    else
      (let x1 := F_ref01_ValidPixel p0 p1 p2 p3 p4 p6
      bif (!x1) then
        ((0, 0, 0, 0, 0, false))
      else
        (bif (decide (p5 > p6)) then
          ((0, 0, 0, 0, 0, false))
        else
          (bif (pre_ref06_Scale_5 [.int .u16 p5, .int .u16 p6, .int .i64 0, .int .u16 p0, .int .u16 p1, .int .u16 p2, .int .u16 p3, .int .u16 p4, .int .u16 0, .int .u16 0, .int .u16 0, .int .u16 0, .int .u16 0, .int .u16 0, .int .u16 0, .int .u16 0, .int .u16 0, .int .u16 0]) then
            (let x2 := LF_ref06_Scale_5 [.int .u16 p5, .int .u16 p6, .int .i64 0, .int .u16 p0, .int .u16 p1, .int .u16 p2, .int .u16 p3, .int .u16 p4, .int .u16 0, .int .u16 0, .int .u16 0, .int .u16 0, .int .u16 0, .int .u16 0, .int .u16 0, .int .u16 0, .int .u16 0, .int .u16 0]
            let x3 := F_ref01_Half (IntKind.u64.wrap ((num (x2.getD 6 undef)) * (num (x2.getD 1 undef)))) (num (x2.getD 2 undef))
            let x4 := F_ref01_Half (IntKind.u64.wrap ((num (x2.getD 7 undef)) * (num (x2.getD 1 undef)))) (num (x2.getD 2 undef))
            ((num (x2.getD 13 undef)), (num (x2.getD 14 undef)), (num (x2.getD 15 undef)), (IntKind.u16.wrap x3), (IntKind.u16.wrap x4), true))
          else
            (((num undef), (num undef), (num undef), (num undef), (num undef), (tru undef)))))) :=
  spellV (L := L_ref06_Scale) (fun l => (num ((l).getD 0 undef), num ((l).getD 1 undef), num ((l).getD 2 undef), num ((l).getD 3 undef), num ((l).getD 4 undef), tru ((l).getD 5 undef))) (evFM ⟨[], [LC_ref06_Scale_5]⟩ Tryz.prog [S_ref01_Half, S_ref01_Full, S_ref01_ValidPixel] 1000 48 (inL A_ref06_Scale [.int .u16 p0, .int .u16 p1, .int .u16 p2, .int .u16 p3, .int .u16 p4, .int .u16 p5, .int .u16 p6]) R_ref06_Scale) (L_ref06_Scale_is _) (by kernel_rfl)

/-! compositor/compositorref06.Both -/
def A_ref06_Both : List PS := [.agg [.i .u16, .i .u16, .i .u16, .i .u16, .i .u16], .c (.i .u16), .c (.i .u16), .c (.i .u16)]
def R_ref06_Both : RS := .tup [.agg [.i .u16, .i .u16, .i .u16, .i .u16, .i .u16], .c (.b)]
noncomputable def L_ref06_Both : List Value → List Value := Classical.choose (veil fun vs => (evFM ⟨[], []⟩ Tryz.prog [S_ref06_Scale] 1000 23 (inL A_ref06_Both vs) R_ref06_Both).outL)
theorem L_ref06_Both_is (vs : List Value) : L_ref06_Both vs = (evFM ⟨[], []⟩ Tryz.prog [S_ref06_Scale] 1000 23 (inL A_ref06_Both vs) R_ref06_Both).outL := Classical.choose_spec (veil fun vs => (evFM ⟨[], []⟩ Tryz.prog [S_ref06_Scale] 1000 23 (inL A_ref06_Both vs) R_ref06_Both).outL) vs
noncomputable def S_ref06_Both : Sum := ⟨23, L_ref06_Both, A_ref06_Both, R_ref06_Both⟩
theorem env_ref06_Both : EnvOK Tryz.prog InvN ⟨[], []⟩ ∧ AllOK Tryz.prog InvN [S_ref06_Scale] := ⟨⟨allC_nil, allL_nil⟩, (allOK_cons ok_ref06_Scale allOK_nil)⟩
theorem okG_ref06_Both (vs : List Value) : (evFM ⟨[], []⟩ Tryz.prog [S_ref06_Scale] 1000 23 (inL A_ref06_Both vs) R_ref06_Both).goodX R_ref06_Both = true := by kernel_rfl
theorem ok_ref06_Both : SumOK Tryz.prog InvN S_ref06_Both := sumOK_partL invN_stays env_ref06_Both.1 env_ref06_Both.2 1000 23 A_ref06_Both R_ref06_Both L_ref06_Both_is okG_ref06_Both (fun vs _ => ok_of_sure (t := evFM ⟨[], []⟩ Tryz.prog [S_ref06_Scale] 1000 23 (inL A_ref06_Both vs) R_ref06_Both) (by kernel_rfl))
noncomputable def F_ref06_Both (p0 : Int) (p1 : Int) (p2 : Int) (p3 : Int) (p4 : Int) (p5 : Int) (p6 : Int) (p7 : Int) : Int × Int × Int × Int × Int × Bool := (num ((L_ref06_Both [.int .u16 p0, .int .u16 p1, .int .u16 p2, .int .u16 p3, .int .u16 p4, .int .u16 p5, .int .u16 p6, .int .u16 p7]).getD 0 undef), num ((L_ref06_Both [.int .u16 p0, .int .u16 p1, .int .u16 p2, .int .u16 p3, .int .u16 p4, .int .u16 p5, .int .u16 p6, .int .u16 p7]).getD 1 undef), num ((L_ref06_Both [.int .u16 p0, .int .u16 p1, .int .u16 p2, .int .u16 p3, .int .u16 p4, .int .u16 p5, .int .u16 p6, .int .u16 p7]).getD 2 undef), num ((L_ref06_Both [.int .u16 p0, .int .u16 p1, .int .u16 p2, .int .u16 p3, .int .u16 p4, .int .u16 p5, .int .u16 p6, .int .u16 p7]).getD 3 undef), num ((L_ref06_Both [.int .u16 p0, .int .u16 p1, .int .u16 p2, .int .u16 p3, .int .u16 p4, .int .u16 p5, .int .u16 p6, .int .u16 p7]).getD 4 undef), tru ((L_ref06_Both [.int .u16 p0, .int .u16 p1, .int .u16 p2, .int .u16 p3, .int .u16 p4, .int .u16 p5, .int .u16 p6, .int .u16 p7]).getD 5 undef))
theorem F_ref06_Both_eq (p0 : Int) (p1 : Int) (p2 : Int) (p3 : Int) (p4 : Int) (p5 : Int) (p6 : Int) (p7 : Int) : F_ref06_Both p0 p1 p2 p3 p4 p5 p6 p7 =
    let x0 := F_ref06_Scale p0 p1 p2 p3 p4 p5 p7
    bif (!x0.2.2.2.2.2) then
      ((0, 0, 0, 0, 0, false))
    else
      (let x1 := F_ref06_Scale x0.1 x0.2.1 x0.2.2.1 x0.2.2.2.1 x0.2.2.2.2.1 p6 p7
      (x1.1, x1.2.1, x1.2.2.1, x1.2.2.2.1, x1.2.2.2.2.1, x1.2.2.2.2.2)) :=
  spellV (L := L_ref06_Both) (fun l => (num ((l).getD 0 undef), num ((l).getD 1 undef), num ((l).getD 2 undef), num ((l).getD 3 undef), num ((l).getD 4 undef), tru ((l).getD 5 undef))) (evFM ⟨[], []⟩ Tryz.prog [S_ref06_Scale] 1000 23 (inL A_ref06_Both [.int .u16 p0, .int .u16 p1, .int .u16 p2, .int .u16 p3, .int .u16 p4, .int .u16 p5, .int .u16 p6, .int .u16 p7]) R_ref06_Both) (L_ref06_Both_is _) (by kernel_rfl)

/-! compositor/compositorref13.CompositeRow -/
def A_ref13_CompositeRow : List PS := [.c (.i .i64), .c (.i .i64), .c (.i .u16), .c (.l [.i .u16, .i .u16, .i .u16, .i .u16, .i .u16]), .c (.l [.i .u16, .i .u16, .i .u16, .i .u16, .i .u16])]
def R_ref13_CompositeRow : RS := .tup [.c (.l [.i .u16, .i .u16, .i .u16, .i .u16, .i .u16]), .c (.b)]
def head_ref13_CompositeRow_5 : Shp := ⟨[.p (.c (.h (.i .i64))), .p (.c (.h (.i .i64))), .p (.c (.h (.i .u16))), .p (.c (.h (.l [.i .u16, .i .u16, .i .u16, .i .u16, .i .u16]))), .p (.c (.h (.l [.i .u16, .i .u16, .i .u16, .i .u16, .i .u16]))), .any, .any, .any, .any, .any, .any, .any, .p (.c (.ar 0 [.i .u16, .i .u16, .i .u16, .i .u16, .i .u16] 28)), .p (.c (.h (.i .i64))), .any, .any, .any, .any, .any, .any, .any, .any, .any, .any, .any, .any, .any, .any, .any, .any, .any, .any, .any, .any, .any, .any, .any, .any, .any, .any, .any, .any, .any, .any, .any, .any, .any, .any, .any], [(0, ⟨[], 28, true, some [.i .u16, .i .u16, .i .u16, .i .u16, .i .u16]⟩)]⟩
def outs_ref13_CompositeRow_5 : List (Xt × Shp × Nat) := [(.ret, ⟨[.any, .any, .any, .any, .any, .any, .any, .any, .any, .any, .p (.c (.ar 0 [.i .u16, .i .u16, .i .u16, .i .u16, .i .u16] 28)), .p (.c (.h (.b))), .any, .any, .any, .any, .any, .any, .any, .any, .any, .any, .any, .any, .any, .any, .any, .any, .any, .any, .any, .any, .any, .any, .any, .any, .any, .any, .any, .any, .any, .any, .any, .any, .any, .any, .any, .any, .any], [(0, ⟨[], 28, true, some [.i .u16, .i .u16, .i .u16, .i .u16, .i .u16]⟩)]⟩, 1), (.exit 0, ⟨[.any, .any, .any, .any, .any, .any, .any, .any, .any, .any, .any, .any, .p (.c (.ar 0 [.i .u16, .i .u16, .i .u16, .i .u16, .i .u16] 28)), .any, .any, .any, .any, .any, .any, .any, .any, .any, .any, .any, .any, .any, .any, .any, .any, .any, .any, .any, .any, .any, .any, .any, .any, .any, .any, .any, .any, .any, .any, .any, .any, .any, .any, .any, .any], [(0, ⟨[], 28, true, some [.i .u16, .i .u16, .i .u16, .i .u16, .i .u16]⟩)]⟩, 1)]
noncomputable def OUT_ref13_CompositeRow_5 (p0 : Int) (p1 : Int) (p2 : Int) (p3 : Value) (p4 : Value) (p5 : Int) (p6 : Value) : List Value :=
    bif (decide (p5 < (LN p3))) then
      (bif (INB p3 p5) then
        (bif (INB p4 p5) then
          (let x0 := F_ref06_Composite p0 p1 p2 (num (CV (IX p3 p5) 0)) (num (CV (IX p3 p5) 1)) (num (CV (IX p3 p5) 2)) (num (CV (IX p3 p5) 3)) (num (CV (IX p3 p5) 4)) (num (CV (IX p4 p5) 0)) (num (CV (IX p4 p5) 1)) (num (CV (IX p4 p5) 2)) (num (CV (IX p4 p5) 3)) (num (CV (IX p4 p5) 4))
          bif (!x0.2.2.2.2.2) then
            ([.int .i64 0, .bool false, NILV])
          else
            (bif (RO 10 (SN p6 [.int .u16 x0.1, .int .u16 x0.2.1, .int .u16 x0.2.2.1, .int .u16 x0.2.2.2.1, .int .u16 x0.2.2.2.2.1])) then
              ([.int .i64 (-1), .int .i64 p0, .int .i64 p1, .int .u16 p2, p3, p4, .int .i64 (IntKind.i64.wrap (p5 + 1)), (SN p6 [.int .u16 x0.1, .int .u16 x0.2.1, .int .u16 x0.2.2.1, .int .u16 x0.2.2.2.1, .int .u16 x0.2.2.2.2.1])])
            else
              ([])))
        else
          ([]))
      else
        ([]))
    else
      ([.int .i64 1, p6])
noncomputable def OL_ref13_CompositeRow_5 (xs : List Value) : List Value := OUT_ref13_CompositeRow_5 (num (xs.getD 0 undef)) (num (xs.getD 1 undef)) (num (xs.getD 2 undef)) (xs.getD 3 undef) (xs.getD 4 undef) (num (xs.getD 5 undef)) (xs.getD 6 undef)
noncomputable def LF_ref13_CompositeRow_5 : List Value → List Value := LFof OL_ref13_CompositeRow_5
def pre_ref13_CompositeRow_5 (xs : List Value) : Bool := decide (LN (xs.getD 4 undef) = LN (xs.getD 3 undef)) && (decide (0 ≤ num (xs.getD 5 undef)) && (decide (num (xs.getD 5 undef) ≤ LN (xs.getD 3 undef)) && (decide (LN (xs.getD 6 undef) = num (xs.getD 5 undef)) && decide (LN (xs.getD 3 undef) ≤ 1000))))
noncomputable def LC_ref13_CompositeRow_5 : LoopC := ⟨9, 5, LF_ref13_CompositeRow_5, pre_ref13_CompositeRow_5, 1, head_ref13_CompositeRow_5, outs_ref13_CompositeRow_5⟩
theorem LF_ref13_CompositeRow_5_go (p0 : Int) (p1 : Int) (p2 : Int) (p3 : Value) (p4 : Value) (p5 : Int) (p6 : Value) : LF_ref13_CompositeRow_5 [.int .i64 p0, .int .i64 p1, .int .u16 p2, p3, p4, .int .i64 p5, p6] = goOn LF_ref13_CompositeRow_5 (OUT_ref13_CompositeRow_5 p0 p1 p2 p3 p4 p5 p6) := LFof_eq _ _
theorem okBL_ref13_CompositeRow_5 (p0 : Int) (p1 : Int) (p2 : Int) (p3 : Value) (p4 : Value) (p5 : Int) (p6 : Value) : (evL ⟨[], []⟩ Tryz.prog [S_ref06_Composite] 1000 LC_ref13_CompositeRow_5 [.int .i64 p0, .int .i64 p1, .int .u16 p2, p3, p4, .int .i64 p5, p6]).ok =
    bif (decide (p5 < (LN p3))) then
      (bif (INB p3 p5) then
        (bif (INB p4 p5) then
          (let x0 := F_ref06_Composite p0 p1 p2 (num (CV (IX p3 p5) 0)) (num (CV (IX p3 p5) 1)) (num (CV (IX p3 p5) 2)) (num (CV (IX p3 p5) 3)) (num (CV (IX p3 p5) 4)) (num (CV (IX p4 p5) 0)) (num (CV (IX p4 p5) 1)) (num (CV (IX p4 p5) 2)) (num (CV (IX p4 p5) 3)) (num (CV (IX p4 p5) 4))
          bif (!x0.2.2.2.2.2) then
            (true)
          else
            (bif (RO 10 (SN p6 [.int .u16 x0.1, .int .u16 x0.2.1, .int .u16 x0.2.2.1, .int .u16 x0.2.2.2.1, .int .u16 x0.2.2.2.2.1])) then
              (true)
            else
              (false)))
        else
          (false))
      else
        (false))
    else
      (true) := (okR_eq _).trans (by kernel_rfl)
theorem step_ref13_CompositeRow_5 (p0 : Int) (p1 : Int) (p2 : Int) (p3 : Value) (p4 : Value) (p5 : Int) (p6 : Value) : (evL ⟨[], []⟩ Tryz.prog [S_ref06_Composite] 1000 LC_ref13_CompositeRow_5 [.int .i64 p0, .int .i64 p1, .int .u16 p2, p3, p4, .int .i64 p5, p6]).outL = OUT_ref13_CompositeRow_5 p0 p1 p2 p3 p4 p5 p6 := (fold_eq (fun l => l) _).trans (by kernel_rfl)
theorem one_ref13_CompositeRow_5 : (loopsBy Tryz.prog 9 5).length = 1 := by kernel_rfl
theorem env_ref13_CompositeRow_5 : EnvOK Tryz.prog InvN ⟨[], []⟩ ∧ AllOK Tryz.prog InvN [S_ref06_Composite] := ⟨⟨allC_nil, allL_nil⟩, (allOK_cons ok_ref06_Composite allOK_nil)⟩
theorem lp_ref13_CompositeRow_5 (meas : List Value → Nat) (h : ∀ p0 p1 p2 p3 p4 p5 p6, IntKind.i64.min ≤ p0 → p0 ≤ IntKind.i64.max → IntKind.i64.min ≤ p1 → p1 ≤ IntKind.i64.max → IntKind.u16.min ≤ p2 → p2 ≤ IntKind.u16.max → inKind (.l [.i .u16, .i .u16, .i .u16, .i .u16, .i .u16]) p3 → inKind (.l [.i .u16, .i .u16, .i .u16, .i .u16, .i .u16]) p4 → IntKind.i64.min ≤ p5 → p5 ≤ IntKind.i64.max → inKind (.l [.i .u16, .i .u16, .i .u16, .i .u16, .i .u16]) p6 → pre_ref13_CompositeRow_5 [.int .i64 p0, .int .i64 p1, .int .u16 p2, p3, p4, .int .i64 p5, p6] = true → (evL ⟨[], []⟩ Tryz.prog [S_ref06_Composite] 1000 LC_ref13_CompositeRow_5 [.int .i64 p0, .int .i64 p1, .int .u16 p2, p3, p4, .int .i64 p5, p6]).ok = true ∧ okO pre_ref13_CompositeRow_5 meas (meas [.int .i64 p0, .int .i64 p1, .int .u16 p2, p3, p4, .int .i64 p5, p6]) (OUT_ref13_CompositeRow_5 p0 p1 p2 p3 p4 p5 p6)) : LoopTrue Tryz.prog InvN LC_ref13_CompositeRow_5 := loop_lf env_ref13_CompositeRow_5 1000 LC_ref13_CompositeRow_5 one_ref13_CompositeRow_5 meas OL_ref13_CompositeRow_5 rfl (fun xs hk hp => by
  have hk : KindsL [.i .i64, .i .i64, .i .u16, .l [.i .u16, .i .u16, .i .u16, .i .u16, .i .u16], .l [.i .u16, .i .u16, .i .u16, .i .u16, .i .u16], .i .i64, .l [.i .u16, .i .u16, .i .u16, .i .u16, .i .u16]] xs := hk
  obtain ⟨_, _, rfl, ⟨p0, rfl, p0lo, p0hi⟩, _, _, rfl, ⟨p1, rfl, p1lo, p1hi⟩, _, _, rfl, ⟨p2, rfl, p2lo, p2hi⟩, p3, _, rfl, p3k, p4, _, rfl, p4k, _, _, rfl, ⟨p5, rfl, p5lo, p5hi⟩, p6, _, rfl, p6k, rfl⟩ := hk
  have h := h p0 p1 p2 p3 p4 p5 p6 p0lo p0hi p1lo p1hi p2lo p2hi p3k p4k p5lo p5hi p6k hp
  exact ⟨h.1, step_ref13_CompositeRow_5 p0 p1 p2 p3 p4 p5 p6, h.2⟩)
theorem ok_ref13_CompositeRow_5 : LoopTrue Tryz.prog InvN LC_ref13_CompositeRow_5 := lp_ref13_CompositeRow_5 (fun xs => (LN (xs.getD 3 undef) - num (xs.getD 5 undef)).toNat) (by
  intro p0 p1 p2 p3 p4 p5 p6
  intros
  rename_i hp
  have hp : (decide (LN p4 = LN p3) && (decide (0 ≤ p5) && (decide (p5 ≤ LN p3) && (decide (LN p6 = p5) && decide (LN p3 ≤ 1000))))) = true := hp
  simp only [Bool.and_eq_true, decide_eq_true_eq] at hp
  obtain ⟨h1, h2, h3, h4, h5⟩ := hp
  have nx : p5 < LN p3 → ∀ cs, okO pre_ref13_CompositeRow_5 (fun xs => (LN (xs.getD 3 undef) - num (xs.getD 5 undef)).toNat) (LN p3 - p5).toNat [.int .i64 (-1), .int .i64 p0, .int .i64 p1, .int .u16 p2, p3, p4, .int .i64 (IntKind.i64.wrap (p5 + 1)), SN p6 cs] := fun h cs => okO_next (by
    show (decide (LN p4 = LN p3) && (decide (0 ≤ IntKind.i64.wrap (p5 + 1)) && (decide (IntKind.i64.wrap (p5 + 1) ≤ LN p3) && (decide (LN (SN p6 cs) = IntKind.i64.wrap (p5 + 1)) && decide (LN p3 ≤ 1000))))) = true
    rw [i64_in (by omega) (by omega)]
    simp only [LN_SN, Bool.and_eq_true, decide_eq_true_eq]
    omega) (by
    show (LN p3 - IntKind.i64.wrap (p5 + 1)).toNat < (LN p3 - p5).toNat
    rw [i64_in (by omega) (by omega)]
    omega)
  have ro : p5 < LN p3 → ∀ cs, RO 10 (SN p6 cs) = true := fun h cs => RO_of (n := 1000) (by rw [LN_SN]; omega) (by decide) (by decide)
  rw [okBL_ref13_CompositeRow_5]
  refine ⟨bif_ok (fun h => ?_) (fun _ => rfl), ?_⟩
  · have h : p5 < LN p3 := of_decide_eq_true h
    simp only [INB_of (l := p3) h2 h, INB_of (l := p4) h2 (show p5 < LN p4 by omega), ro h, cond_true, Bool.cond_self]
  · unfold OUT_ref13_CompositeRow_5
    refine okO_bif (fun h => ?_) (fun _ => okO_exit 1)
    have h : p5 < LN p3 := of_decide_eq_true h
    simp only [INB_of (l := p3) h2 h, INB_of (l := p4) h2 (show p5 < LN p4 by omega), ro h, cond_true]
    exact okO_bif (fun _ => okO_exit 0) (fun _ => nx h _))
noncomputable def L_ref13_CompositeRow : List Value → List Value := Classical.choose (veil fun vs => (evFM ⟨[], [LC_ref13_CompositeRow_5]⟩ Tryz.prog [S_ref06_Composite] 1000 9 (inL A_ref13_CompositeRow vs) R_ref13_CompositeRow).outL)
theorem L_ref13_CompositeRow_is (vs : List Value) : L_ref13_CompositeRow vs = (evFM ⟨[], [LC_ref13_CompositeRow_5]⟩ Tryz.prog [S_ref06_Composite] 1000 9 (inL A_ref13_CompositeRow vs) R_ref13_CompositeRow).outL := Classical.choose_spec (veil fun vs => (evFM ⟨[], [LC_ref13_CompositeRow_5]⟩ Tryz.prog [S_ref06_Composite] 1000 9 (inL A_ref13_CompositeRow vs) R_ref13_CompositeRow).outL) vs
def pre_ref13_CompositeRow : List Value → Bool := fun vs => decide (LN (vs.getD 3 undef) ≤ 1000)
noncomputable def C_ref13_CompositeRow : CSum := ⟨9, L_ref13_CompositeRow, pre_ref13_CompositeRow, A_ref13_CompositeRow, R_ref13_CompositeRow⟩
theorem env_ref13_CompositeRow : EnvOK Tryz.prog InvN ⟨[], [LC_ref13_CompositeRow_5]⟩ ∧ AllOK Tryz.prog InvN [S_ref06_Composite] := ⟨⟨allC_nil, (allL_cons ok_ref13_CompositeRow_5 allL_nil)⟩, (allOK_cons ok_ref06_Composite allOK_nil)⟩
theorem okG_ref13_CompositeRow (vs : List Value) : (evFM ⟨[], [LC_ref13_CompositeRow_5]⟩ Tryz.prog [S_ref06_Composite] 1000 9 (inL A_ref13_CompositeRow vs) R_ref13_CompositeRow).goodX R_ref13_CompositeRow = true := by kernel_rfl
theorem okB_ref13_CompositeRow (p0 : Int) (p1 : Int) (p2 : Int) (p3 : Value) (p4 : Value) : (evFM ⟨[], [LC_ref13_CompositeRow_5]⟩ Tryz.prog [S_ref06_Composite] 1000 9 (inL A_ref13_CompositeRow [.int .i64 p0, .int .i64 p1, .int .u16 p2, p3, p4]) R_ref13_CompositeRow).ok =
    bif ((LN p3) != (LN p4)) then
      (true)
    else
      (bif (pre_ref13_CompositeRow_5 [.int .i64 p0, .int .i64 p1, .int .u16 p2, p3, p4, .int .i64 0, NILV]) then
        (true)
      else
        (false)) := (okR_eq _).trans (by kernel_rfl)
theorem okA_ref13_CompositeRow (h : ∀ p0 p1 p2 p3 p4 , IntKind.i64.min ≤ p0 → p0 ≤ IntKind.i64.max → IntKind.i64.min ≤ p1 → p1 ≤ IntKind.i64.max → IntKind.u16.min ≤ p2 → p2 ≤ IntKind.u16.max → inKind (.l [.i .u16, .i .u16, .i .u16, .i .u16, .i .u16]) p3 → inKind (.l [.i .u16, .i .u16, .i .u16, .i .u16, .i .u16]) p4 → pre_ref13_CompositeRow [.int .i64 p0, .int .i64 p1, .int .u16 p2, p3, p4] = true → (evFM ⟨[], [LC_ref13_CompositeRow_5]⟩ Tryz.prog [S_ref06_Composite] 1000 9 (inL A_ref13_CompositeRow [.int .i64 p0, .int .i64 p1, .int .u16 p2, p3, p4]) R_ref13_CompositeRow).ok = true) : CSumOK Tryz.prog InvN C_ref13_CompositeRow := csumOK_partV invN_stays env_ref13_CompositeRow.1 env_ref13_CompositeRow.2 1000 9 A_ref13_CompositeRow R_ref13_CompositeRow L_ref13_CompositeRow_is pre_ref13_CompositeRow okG_ref13_CompositeRow (fun vs hk hp => by
  obtain ⟨_, _, rfl, ⟨p0, rfl, p0lo, p0hi⟩, _, _, rfl, ⟨p1, rfl, p1lo, p1hi⟩, _, _, rfl, ⟨p2, rfl, p2lo, p2hi⟩, p3, _, rfl, p3k, p4, _, rfl, p4k, rfl⟩ := hk
  exact h p0 p1 p2 p3 p4 p0lo p0hi p1lo p1hi p2lo p2hi p3k p4k hp)
theorem crow_start {p0 p1 p2 : Int} {p3 p4 : Value} (hp : LN p3 ≤ 1000) (h : LN p3 = LN p4) : pre_ref13_CompositeRow_5 [.int .i64 p0, .int .i64 p1, .int .u16 p2, p3, p4, .int .i64 0, NILV] = true := by
  show (decide (LN p4 = LN p3) && (decide ((0 : Int) ≤ 0) && (decide (0 ≤ LN p3) && (decide (LN NILV = 0) && decide (LN p3 ≤ 1000))))) = true
  simp only [Bool.and_eq_true, decide_eq_true_eq]
  exact ⟨h.symm, Int.le_refl 0, LN_nonneg p3, LN_nil, hp⟩
theorem ok_ref13_CompositeRow : CSumOK Tryz.prog InvN C_ref13_CompositeRow := okA_ref13_CompositeRow (by
  intro p0 p1 p2 p3 p4
  intros
  rename_i hp
  have hp : LN p3 ≤ 1000 := of_decide_eq_true hp
  rw [okB_ref13_CompositeRow]
  refine bif_ok (fun _ => rfl) (fun h => ?_)
  simp only [bne_eq_false_iff_eq] at h
  rw [crow_start hp h]
  rfl)
noncomputable def F_ref13_CompositeRow (p0 : Int) (p1 : Int) (p2 : Int) (p3 : Value) (p4 : Value) : Value × Bool := ((L_ref13_CompositeRow [.int .i64 p0, .int .i64 p1, .int .u16 p2, p3, p4]).getD 0 undef, tru ((L_ref13_CompositeRow [.int .i64 p0, .int .i64 p1, .int .u16 p2, p3, p4]).getD 1 undef))
theorem F_ref13_CompositeRow_eq (p0 : Int) (p1 : Int) (p2 : Int) (p3 : Value) (p4 : Value) : F_ref13_CompositeRow p0 p1 p2 p3 p4 =
    bif ((LN p3) != (LN p4)) then
      ((NILV, false))
    else
      (bif (pre_ref13_CompositeRow_5 [.int .i64 p0, .int .i64 p1, .int .u16 p2, p3, p4, .int .i64 0, NILV]) then
        (let x0 := LF_ref13_CompositeRow_5 [.int .i64 p0, .int .i64 p1, .int .u16 p2, p3, p4, .int .i64 0, NILV]
        bif (IXT x0 0) then
          (((x0.getD 2 undef), (tru (x0.getD 1 undef))))
        else
          (((x0.getD 1 undef), true)))
      else
        ((undef, (tru undef)))) :=
  spellV (L := L_ref13_CompositeRow) (fun l => ((l).getD 0 undef, tru ((l).getD 1 undef))) (evFM ⟨[], [LC_ref13_CompositeRow_5]⟩ Tryz.prog [S_ref06_Composite] 1000 9 (inL A_ref13_CompositeRow [.int .i64 p0, .int .i64 p1, .int .u16 p2, p3, p4]) R_ref13_CompositeRow) (L_ref13_CompositeRow_is _) (by kernel_rfl)

/-! compositor/compositorref13.ScaleRow -/
def A_ref13_ScaleRow : List PS := [.c (.l [.i .u16, .i .u16, .i .u16, .i .u16, .i .u16]), .c (.l [.i .u16]), .c (.i .u16), .c (.i .u16)]
def R_ref13_ScaleRow : RS := .tup [.c (.l [.i .u16, .i .u16, .i .u16, .i .u16, .i .u16]), .c (.b)]
def head_ref13_ScaleRow_5 : Shp := ⟨[.p (.c (.h (.l [.i .u16, .i .u16, .i .u16, .i .u16, .i .u16]))), .p (.c (.h (.l [.i .u16]))), .p (.c (.h (.i .u16))), .p (.c (.h (.i .u16))), .any, .any, .any, .any, .any, .any, .p (.c (.ar 0 [.i .u16, .i .u16, .i .u16, .i .u16, .i .u16] 28)), .p (.c (.h (.i .i64))), .any, .any, .any, .any, .any, .any, .any, .any, .any, .any, .any, .any, .any, .any, .any, .any, .any, .any, .any, .any, .any, .any, .any, .any, .any, .any, .any, .any, .any, .any, .any, .any, .any, .any, .any, .any, .any, .any, .any, .any, .any, .any, .any, .any, .any], [(0, ⟨[], 28, true, some [.i .u16, .i .u16, .i .u16, .i .u16, .i .u16]⟩)]⟩
def outs_ref13_ScaleRow_5 : List (Xt × Shp × Nat) := [(.ret, ⟨[.any, .any, .any, .any, .any, .any, .any, .any, .p (.c (.ar 0 [.i .u16, .i .u16, .i .u16, .i .u16, .i .u16] 28)), .p (.c (.h (.b))), .any, .any, .any, .any, .any, .any, .any, .any, .any, .any, .any, .any, .any, .any, .any, .any, .any, .any, .any, .any, .any, .any, .any, .any, .any, .any, .any, .any, .any, .any, .any, .any, .any, .any, .any, .any, .any, .any, .any, .any, .any, .any, .any, .any, .any, .any, .any], [(0, ⟨[], 28, true, some [.i .u16, .i .u16, .i .u16, .i .u16, .i .u16]⟩)]⟩, 1), (.exit 0, ⟨[.any, .any, .any, .any, .any, .any, .any, .any, .any, .any, .p (.c (.ar 0 [.i .u16, .i .u16, .i .u16, .i .u16, .i .u16] 28)), .any, .any, .any, .any, .any, .any, .any, .any, .any, .any, .any, .any, .any, .any, .any, .any, .any, .any, .any, .any, .any, .any, .any, .any, .any, .any, .any, .any, .any, .any, .any, .any, .any, .any, .any, .any, .any, .any, .any, .any, .any, .any, .any, .any, .any, .any], [(0, ⟨[], 28, true, some [.i .u16, .i .u16, .i .u16, .i .u16, .i .u16]⟩)]⟩, 1)]
noncomputable def OUT_ref13_ScaleRow_5 (p0 : Value) (p1 : Value) (p2 : Int) (p3 : Int) (p4 : Int) (p5 : Value) : List Value :=
    bif (decide (p4 < (LN p0))) then
      (bif (decide ((LN p1) > 0)) then
        (bif (INB p1 p4) then
          (bif (INB p0 p4) then
            (let x0 := F_ref06_Both (num (CV (IX p0 p4) 0)) (num (CV (IX p0 p4) 1)) (num (CV (IX p0 p4) 2)) (num (CV (IX p0 p4) 3)) (num (CV (IX p0 p4) 4)) (num (CV (IX p1 p4) 0)) p2 p3
            bif (!x0.2.2.2.2.2) then
              ([.int .i64 0, .bool false, NILV])
            else
              (bif (RO 10 (SN p5 [.int .u16 x0.1, .int .u16 x0.2.1, .int .u16 x0.2.2.1, .int .u16 x0.2.2.2.1, .int .u16 x0.2.2.2.2.1])) then
                ([.int .i64 (-1), p0, p1, .int .u16 p2, .int .u16 p3, .int .i64 (IntKind.i64.wrap (p4 + 1)), (SN p5 [.int .u16 x0.1, .int .u16 x0.2.1, .int .u16 x0.2.2.1, .int .u16 x0.2.2.2.1, .int .u16 x0.2.2.2.2.1])])
              else
                ([])))
          else
            ([]))
        else
          ([]))
      else
        (bif (INB p0 p4) then
          (let x1 := F_ref06_Both (num (CV (IX p0 p4) 0)) (num (CV (IX p0 p4) 1)) (num (CV (IX p0 p4) 2)) (num (CV (IX p0 p4) 3)) (num (CV (IX p0 p4) 4)) p3 p2 p3
          bif (!x1.2.2.2.2.2) then
            ([.int .i64 0, .bool false, NILV])
          else
            (bif (RO 10 (SN p5 [.int .u16 x1.1, .int .u16 x1.2.1, .int .u16 x1.2.2.1, .int .u16 x1.2.2.2.1, .int .u16 x1.2.2.2.2.1])) then
              ([.int .i64 (-1), p0, p1, .int .u16 p2, .int .u16 p3, .int .i64 (IntKind.i64.wrap (p4 + 1)), (SN p5 [.int .u16 x1.1, .int .u16 x1.2.1, .int .u16 x1.2.2.1, .int .u16 x1.2.2.2.1, .int .u16 x1.2.2.2.2.1])])
            else
              ([])))
        else
          ([])))
    else
      ([.int .i64 1, p5])
noncomputable def OL_ref13_ScaleRow_5 (xs : List Value) : List Value := OUT_ref13_ScaleRow_5 (xs.getD 0 undef) (xs.getD 1 undef) (num (xs.getD 2 undef)) (num (xs.getD 3 undef)) (num (xs.getD 4 undef)) (xs.getD 5 undef)
noncomputable def LF_ref13_ScaleRow_5 : List Value → List Value := LFof OL_ref13_ScaleRow_5
def pre_ref13_ScaleRow_5 (xs : List Value) : Bool := decide (LN (xs.getD 1 undef) = 0 ∨ LN (xs.getD 1 undef) = LN (xs.getD 0 undef)) && (decide (0 ≤ num (xs.getD 4 undef)) && (decide (num (xs.getD 4 undef) ≤ LN (xs.getD 0 undef)) && (decide (LN (xs.getD 5 undef) = num (xs.getD 4 undef)) && decide (LN (xs.getD 0 undef) ≤ 1000))))
noncomputable def LC_ref13_ScaleRow_5 : LoopC := ⟨10, 5, LF_ref13_ScaleRow_5, pre_ref13_ScaleRow_5, 1, head_ref13_ScaleRow_5, outs_ref13_ScaleRow_5⟩
theorem LF_ref13_ScaleRow_5_go (p0 : Value) (p1 : Value) (p2 : Int) (p3 : Int) (p4 : Int) (p5 : Value) : LF_ref13_ScaleRow_5 [p0, p1, .int .u16 p2, .int .u16 p3, .int .i64 p4, p5] = goOn LF_ref13_ScaleRow_5 (OUT_ref13_ScaleRow_5 p0 p1 p2 p3 p4 p5) := LFof_eq _ _
theorem okBL_ref13_ScaleRow_5 (p0 : Value) (p1 : Value) (p2 : Int) (p3 : Int) (p4 : Int) (p5 : Value) : (evL ⟨[], []⟩ Tryz.prog [S_ref06_Both] 1000 LC_ref13_ScaleRow_5 [p0, p1, .int .u16 p2, .int .u16 p3, .int .i64 p4, p5]).ok =
    bif (decide (p4 < (LN p0))) then
      (bif (decide ((LN p1) > 0)) then
        (bif (INB p1 p4) then
          (bif (INB p0 p4) then
            (let x0 := F_ref06_Both (num (CV (IX p0 p4) 0)) (num (CV (IX p0 p4) 1)) (num (CV (IX p0 p4) 2)) (num (CV (IX p0 p4) 3)) (num (CV (IX p0 p4) 4)) (num (CV (IX p1 p4) 0)) p2 p3
            bif (!x0.2.2.2.2.2) then
              (true)
            else
              (bif (RO 10 (SN p5 [.int .u16 x0.1, .int .u16 x0.2.1, .int .u16 x0.2.2.1, .int .u16 x0.2.2.2.1, .int .u16 x0.2.2.2.2.1])) then
                (true)
              else
                (false)))
          else
            (false))
        else
          (false))
      else
        (bif (INB p0 p4) then
          (let x1 := F_ref06_Both (num (CV (IX p0 p4) 0)) (num (CV (IX p0 p4) 1)) (num (CV (IX p0 p4) 2)) (num (CV (IX p0 p4) 3)) (num (CV (IX p0 p4) 4)) p3 p2 p3
          bif (!x1.2.2.2.2.2) then
            (true)
          else
            (bif (RO 10 (SN p5 [.int .u16 x1.1, .int .u16 x1.2.1, .int .u16 x1.2.2.1, .int .u16 x1.2.2.2.1, .int .u16 x1.2.2.2.2.1])) then
              (true)
            else
              (false)))
        else
          (false)))
    else
      (true) := (okR_eq _).trans (by kernel_rfl)
theorem step_ref13_ScaleRow_5 (p0 : Value) (p1 : Value) (p2 : Int) (p3 : Int) (p4 : Int) (p5 : Value) : (evL ⟨[], []⟩ Tryz.prog [S_ref06_Both] 1000 LC_ref13_ScaleRow_5 [p0, p1, .int .u16 p2, .int .u16 p3, .int .i64 p4, p5]).outL = OUT_ref13_ScaleRow_5 p0 p1 p2 p3 p4 p5 := (fold_eq (fun l => l) _).trans (by kernel_rfl)
theorem one_ref13_ScaleRow_5 : (loopsBy Tryz.prog 10 5).length = 1 := by kernel_rfl
theorem env_ref13_ScaleRow_5 : EnvOK Tryz.prog InvN ⟨[], []⟩ ∧ AllOK Tryz.prog InvN [S_ref06_Both] := ⟨⟨allC_nil, allL_nil⟩, (allOK_cons ok_ref06_Both allOK_nil)⟩
theorem lp_ref13_ScaleRow_5 (meas : List Value → Nat) (h : ∀ p0 p1 p2 p3 p4 p5, inKind (.l [.i .u16, .i .u16, .i .u16, .i .u16, .i .u16]) p0 → inKind (.l [.i .u16]) p1 → IntKind.u16.min ≤ p2 → p2 ≤ IntKind.u16.max → IntKind.u16.min ≤ p3 → p3 ≤ IntKind.u16.max → IntKind.i64.min ≤ p4 → p4 ≤ IntKind.i64.max → inKind (.l [.i .u16, .i .u16, .i .u16, .i .u16, .i .u16]) p5 → pre_ref13_ScaleRow_5 [p0, p1, .int .u16 p2, .int .u16 p3, .int .i64 p4, p5] = true → (evL ⟨[], []⟩ Tryz.prog [S_ref06_Both] 1000 LC_ref13_ScaleRow_5 [p0, p1, .int .u16 p2, .int .u16 p3, .int .i64 p4, p5]).ok = true ∧ okO pre_ref13_ScaleRow_5 meas (meas [p0, p1, .int .u16 p2, .int .u16 p3, .int .i64 p4, p5]) (OUT_ref13_ScaleRow_5 p0 p1 p2 p3 p4 p5)) : LoopTrue Tryz.prog InvN LC_ref13_ScaleRow_5 := loop_lf env_ref13_ScaleRow_5 1000 LC_ref13_ScaleRow_5 one_ref13_ScaleRow_5 meas OL_ref13_ScaleRow_5 rfl (fun xs hk hp => by
  have hk : KindsL [.l [.i .u16, .i .u16, .i .u16, .i .u16, .i .u16], .l [.i .u16], .i .u16, .i .u16, .i .i64, .l [.i .u16, .i .u16, .i .u16, .i .u16, .i .u16]] xs := hk
  obtain ⟨p0, _, rfl, p0k, p1, _, rfl, p1k, _, _, rfl, ⟨p2, rfl, p2lo, p2hi⟩, _, _, rfl, ⟨p3, rfl, p3lo, p3hi⟩, _, _, rfl, ⟨p4, rfl, p4lo, p4hi⟩, p5, _, rfl, p5k, rfl⟩ := hk
  have h := h p0 p1 p2 p3 p4 p5 p0k p1k p2lo p2hi p3lo p3hi p4lo p4hi p5k hp
  exact ⟨h.1, step_ref13_ScaleRow_5 p0 p1 p2 p3 p4 p5, h.2⟩)
theorem ok_ref13_ScaleRow_5 : LoopTrue Tryz.prog InvN LC_ref13_ScaleRow_5 := lp_ref13_ScaleRow_5 (fun xs => (LN (xs.getD 0 undef) - num (xs.getD 4 undef)).toNat) (by
  intro p0 p1 p2 p3 p4 p5
  intros
  rename_i hp
  have hp : (decide (LN p1 = 0 ∨ LN p1 = LN p0) && (decide (0 ≤ p4) && (decide (p4 ≤ LN p0) && (decide (LN p5 = p4) && decide (LN p0 ≤ 1000))))) = true := hp
  simp only [Bool.and_eq_true, decide_eq_true_eq] at hp
  obtain ⟨h1, h2, h3, h4, h5⟩ := hp
  have nx : p4 < LN p0 → ∀ cs, okO pre_ref13_ScaleRow_5 (fun xs => (LN (xs.getD 0 undef) - num (xs.getD 4 undef)).toNat) (LN p0 - p4).toNat [.int .i64 (-1), p0, p1, .int .u16 p2, .int .u16 p3, .int .i64 (IntKind.i64.wrap (p4 + 1)), SN p5 cs] := fun h cs => okO_next (by
    show (decide (LN p1 = 0 ∨ LN p1 = LN p0) && (decide (0 ≤ IntKind.i64.wrap (p4 + 1)) && (decide (IntKind.i64.wrap (p4 + 1) ≤ LN p0) && (decide (LN (SN p5 cs) = IntKind.i64.wrap (p4 + 1)) && decide (LN p0 ≤ 1000))))) = true
    rw [i64_in (by omega) (by omega)]
    simp only [LN_SN, Bool.and_eq_true, decide_eq_true_eq]
    omega) (by
    show (LN p0 - IntKind.i64.wrap (p4 + 1)).toNat < (LN p0 - p4).toNat
    rw [i64_in (by omega) (by omega)]
    omega)
  have ro : p4 < LN p0 → ∀ cs, RO 10 (SN p5 cs) = true := fun h cs => RO_of (n := 1000) (by rw [LN_SN]; omega) (by decide) (by decide)
  rw [okBL_ref13_ScaleRow_5]
  refine ⟨bif_ok (fun h => ?_) (fun _ => rfl), ?_⟩
  · have h : p4 < LN p0 := of_decide_eq_true h
    have g0 : INB p0 p4 = true := INB_of h2 h
    by_cases hq : LN p1 > 0
    · have k0 : INB p1 p4 = true := INB_of h2 (by omega)
      simp only [decide_eq_true hq, g0, k0, ro h, cond_true, Bool.cond_self]
    · simp only [decide_eq_false hq, g0, ro h, cond_true, cond_false, Bool.cond_self]
  · unfold OUT_ref13_ScaleRow_5
    refine okO_bif (fun h => ?_) (fun _ => okO_exit 1)
    have h : p4 < LN p0 := of_decide_eq_true h
    have g0 : INB p0 p4 = true := INB_of h2 h
    by_cases hq : LN p1 > 0
    · have k0 : INB p1 p4 = true := INB_of h2 (by omega)
      simp only [decide_eq_true hq, g0, k0, ro h, cond_true]
      exact okO_bif (fun _ => okO_exit 0) (fun _ => nx h _)
    · simp only [decide_eq_false hq, g0, ro h, cond_true, cond_false]
      exact okO_bif (fun _ => okO_exit 0) (fun _ => nx h _))
noncomputable def L_ref13_ScaleRow : List Value → List Value := Classical.choose (veil fun vs => (evFM ⟨[], [LC_ref13_ScaleRow_5]⟩ Tryz.prog [S_ref06_Both] 1000 10 (inL A_ref13_ScaleRow vs) R_ref13_ScaleRow).outL)
theorem L_ref13_ScaleRow_is (vs : List Value) : L_ref13_ScaleRow vs = (evFM ⟨[], [LC_ref13_ScaleRow_5]⟩ Tryz.prog [S_ref06_Both] 1000 10 (inL A_ref13_ScaleRow vs) R_ref13_ScaleRow).outL := Classical.choose_spec (veil fun vs => (evFM ⟨[], [LC_ref13_ScaleRow_5]⟩ Tryz.prog [S_ref06_Both] 1000 10 (inL A_ref13_ScaleRow vs) R_ref13_ScaleRow).outL) vs
def pre_ref13_ScaleRow : List Value → Bool := fun vs => decide (LN (vs.getD 0 undef) ≤ 1000)
noncomputable def C_ref13_ScaleRow : CSum := ⟨10, L_ref13_ScaleRow, pre_ref13_ScaleRow, A_ref13_ScaleRow, R_ref13_ScaleRow⟩
theorem env_ref13_ScaleRow : EnvOK Tryz.prog InvN ⟨[], [LC_ref13_ScaleRow_5]⟩ ∧ AllOK Tryz.prog InvN [S_ref06_Both] := ⟨⟨allC_nil, (allL_cons ok_ref13_ScaleRow_5 allL_nil)⟩, (allOK_cons ok_ref06_Both allOK_nil)⟩
theorem okG_ref13_ScaleRow (vs : List Value) : (evFM ⟨[], [LC_ref13_ScaleRow_5]⟩ Tryz.prog [S_ref06_Both] 1000 10 (inL A_ref13_ScaleRow vs) R_ref13_ScaleRow).goodX R_ref13_ScaleRow = true := by kernel_rfl
theorem okB_ref13_ScaleRow (p0 : Value) (p1 : Value) (p2 : Int) (p3 : Int) : (evFM ⟨[], [LC_ref13_ScaleRow_5]⟩ Tryz.prog [S_ref06_Both] 1000 10 (inL A_ref13_ScaleRow [p0, p1, .int .u16 p2, .int .u16 p3]) R_ref13_ScaleRow).ok =
    bif (decide ((LN p1) > 0)) then
      (bif ((LN p1) != (LN p0)) then
        (true)
      else
        (bif (pre_ref13_ScaleRow_5 [p0, p1, .int .u16 p2, .int .u16 p3, .int .i64 0, NILV]) then
          (true)
        else
          (false)))
    else
      (bif (pre_ref13_ScaleRow_5 [p0, p1, .int .u16 p2, .int .u16 p3, .int .i64 0, NILV]) then
        (true)
      else
        (false)) := (okR_eq _).trans (by kernel_rfl)
theorem okA_ref13_ScaleRow (h : ∀ p0 p1 p2 p3 , inKind (.l [.i .u16, .i .u16, .i .u16, .i .u16, .i .u16]) p0 → inKind (.l [.i .u16]) p1 → IntKind.u16.min ≤ p2 → p2 ≤ IntKind.u16.max → IntKind.u16.min ≤ p3 → p3 ≤ IntKind.u16.max → pre_ref13_ScaleRow [p0, p1, .int .u16 p2, .int .u16 p3] = true → (evFM ⟨[], [LC_ref13_ScaleRow_5]⟩ Tryz.prog [S_ref06_Both] 1000 10 (inL A_ref13_ScaleRow [p0, p1, .int .u16 p2, .int .u16 p3]) R_ref13_ScaleRow).ok = true) : CSumOK Tryz.prog InvN C_ref13_ScaleRow := csumOK_partV invN_stays env_ref13_ScaleRow.1 env_ref13_ScaleRow.2 1000 10 A_ref13_ScaleRow R_ref13_ScaleRow L_ref13_ScaleRow_is pre_ref13_ScaleRow okG_ref13_ScaleRow (fun vs hk hp => by
  obtain ⟨p0, _, rfl, p0k, p1, _, rfl, p1k, _, _, rfl, ⟨p2, rfl, p2lo, p2hi⟩, _, _, rfl, ⟨p3, rfl, p3lo, p3hi⟩, rfl⟩ := hk
  exact h p0 p1 p2 p3 p0k p1k p2lo p2hi p3lo p3hi hp)
theorem srow_start {p0 p1 : Value} {p2 p3 : Int} (hp : LN p0 ≤ 1000) (h : LN p1 = 0 ∨ LN p1 = LN p0) : pre_ref13_ScaleRow_5 [p0, p1, .int .u16 p2, .int .u16 p3, .int .i64 0, NILV] = true := by
  show (decide (LN p1 = 0 ∨ LN p1 = LN p0) && (decide ((0 : Int) ≤ 0) && (decide (0 ≤ LN p0) && (decide (LN NILV = 0) && decide (LN p0 ≤ 1000))))) = true
  simp only [Bool.and_eq_true, decide_eq_true_eq]
  exact ⟨h, Int.le_refl 0, LN_nonneg p0, LN_nil, hp⟩
theorem ok_ref13_ScaleRow : CSumOK Tryz.prog InvN C_ref13_ScaleRow := okA_ref13_ScaleRow (by
  intro p0 p1 p2 p3
  intros
  rename_i hp
  have hp : LN p0 ≤ 1000 := of_decide_eq_true hp
  rw [okB_ref13_ScaleRow]
  refine bif_ok (fun _ => bif_ok (fun _ => rfl) (fun h => ?_)) (fun h => ?_)
  · simp only [bne_eq_false_iff_eq] at h
    rw [srow_start hp (.inr h)]
    rfl
  · have h : ¬ LN p1 > 0 := of_decide_eq_false h
    have := LN_nonneg p1
    rw [srow_start hp (.inl (by omega))]
    rfl)
noncomputable def F_ref13_ScaleRow (p0 : Value) (p1 : Value) (p2 : Int) (p3 : Int) : Value × Bool := ((L_ref13_ScaleRow [p0, p1, .int .u16 p2, .int .u16 p3]).getD 0 undef, tru ((L_ref13_ScaleRow [p0, p1, .int .u16 p2, .int .u16 p3]).getD 1 undef))
theorem F_ref13_ScaleRow_eq (p0 : Value) (p1 : Value) (p2 : Int) (p3 : Int) : F_ref13_ScaleRow p0 p1 p2 p3 =
    bif (decide ((LN p1) > 0)) then
      (bif ((LN p1) != (LN p0)) then
        ((NILV, false))
      else
        (bif (pre_ref13_ScaleRow_5 [p0, p1, .int .u16 p2, .int .u16 p3, .int .i64 0, NILV]) then
          (let x0 := LF_ref13_ScaleRow_5 [p0, p1, .int .u16 p2, .int .u16 p3, .int .i64 0, NILV]
          bif (IXT x0 0) then
            (((x0.getD 2 undef), (tru (x0.getD 1 undef))))
          else
            (((x0.getD 1 undef), true)))
        else
          ((undef, (tru undef)))))
    else
      (bif (pre_ref13_ScaleRow_5 [p0, p1, .int .u16 p2, .int .u16 p3, .int .i64 0, NILV]) then
        (let x1 := LF_ref13_ScaleRow_5 [p0, p1, .int .u16 p2, .int .u16 p3, .int .i64 0, NILV]
        bif (IXT x1 0) then
          (((x1.getD 2 undef), (tru (x1.getD 1 undef))))
        else
          (((x1.getD 1 undef), true)))
      else
        ((undef, (tru undef)))) :=
  spellV (L := L_ref13_ScaleRow) (fun l => ((l).getD 0 undef, tru ((l).getD 1 undef))) (evFM ⟨[], [LC_ref13_ScaleRow_5]⟩ Tryz.prog [S_ref06_Both] 1000 10 (inL A_ref13_ScaleRow [p0, p1, .int .u16 p2, .int .u16 p3]) R_ref13_ScaleRow) (L_ref13_ScaleRow_is _) (by kernel_rfl)

/-! compositor/compositorref13.SamePixels -/
def A_ref13_SamePixels : List PS := [.c (.l [.i .u16, .i .u16, .i .u16, .i .u16, .i .u16]), .c (.l [.i .u16, .i .u16, .i .u16, .i .u16, .i .u16])]
def R_ref13_SamePixels : RS := .one (.c (.b))
def head_ref13_SamePixels_4 : Shp := ⟨[.p (.c (.h (.l [.i .u16, .i .u16, .i .u16, .i .u16, .i .u16]))), .p (.c (.h (.l [.i .u16, .i .u16, .i .u16, .i .u16, .i .u16]))), .any, .any, .any, .p (.c (.h (.i .i64))), .any, .any, .any, .any, .any, .any, .any, .any, .any, .any, .any, .any, .any, .any, .any, .any, .any, .any, .any, .any], []⟩
def outs_ref13_SamePixels_4 : List (Xt × Shp × Nat) := [(.ret, ⟨[.any, .any, .any, .any, .p (.c (.h (.b))), .any, .any, .any, .any, .any, .any, .any, .any, .any, .any, .any, .any, .any, .any, .any, .any, .any, .any, .any, .any, .any], []⟩, 0), (.exit 0, ⟨[.any, .any, .any, .any, .any, .any, .any, .any, .any, .any, .any, .any, .any, .any, .any, .any, .any, .any, .any, .any, .any, .any, .any, .any, .any, .any], []⟩, 0)]
noncomputable def OUT_ref13_SamePixels_4 (p0 : Value) (p1 : Value) (p2 : Int) : List Value :=
    bif (decide (p2 < (LN p0))) then
      (bif (INB p0 p2) then
        (bif (INB p1 p2) then
          (bif (!((((num (CV (IX p0 p2) 0)) == (num (CV (IX p1 p2) 0))) && (((num (CV (IX p0 p2) 1)) == (num (CV (IX p1 p2) 1))) && ((num (CV (IX p0 p2) 2)) == (num (CV (IX p1 p2) 2))))) && (((num (CV (IX p0 p2) 3)) == (num (CV (IX p1 p2) 3))) && ((num (CV (IX p0 p2) 4)) == (num (CV (IX p1 p2) 4)))))) then
            ([.int .i64 0, .bool false])
          else
            ([.int .i64 (-1), p0, p1, .int .i64 (IntKind.i64.wrap (p2 + 1))]))
        else
          ([]))
      else
        ([]))
    else
      ([.int .i64 1])
noncomputable def OL_ref13_SamePixels_4 (xs : List Value) : List Value := OUT_ref13_SamePixels_4 (xs.getD 0 undef) (xs.getD 1 undef) (num (xs.getD 2 undef))
noncomputable def LF_ref13_SamePixels_4 : List Value → List Value := LFof OL_ref13_SamePixels_4
def pre_ref13_SamePixels_4 (xs : List Value) : Bool := decide (LN (xs.getD 1 undef) = LN (xs.getD 0 undef)) && (decide (0 ≤ num (xs.getD 2 undef)) && decide (num (xs.getD 2 undef) ≤ LN (xs.getD 0 undef)))
noncomputable def LC_ref13_SamePixels_4 : LoopC := ⟨12, 4, LF_ref13_SamePixels_4, pre_ref13_SamePixels_4, 0, head_ref13_SamePixels_4, outs_ref13_SamePixels_4⟩
theorem LF_ref13_SamePixels_4_go (p0 : Value) (p1 : Value) (p2 : Int) : LF_ref13_SamePixels_4 [p0, p1, .int .i64 p2] = goOn LF_ref13_SamePixels_4 (OUT_ref13_SamePixels_4 p0 p1 p2) := LFof_eq _ _
theorem okBL_ref13_SamePixels_4 (p0 : Value) (p1 : Value) (p2 : Int) : (evL ⟨[], []⟩ Tryz.prog [] 1000 LC_ref13_SamePixels_4 [p0, p1, .int .i64 p2]).ok =
    bif (decide (p2 < (LN p0))) then
      (bif (INB p0 p2) then
        (bif (INB p1 p2) then
          (true)
        else
          (false))
      else
        (false))
    else
      (true) := (okR_eq _).trans (by kernel_rfl)
theorem step_ref13_SamePixels_4 (p0 : Value) (p1 : Value) (p2 : Int) : (evL ⟨[], []⟩ Tryz.prog [] 1000 LC_ref13_SamePixels_4 [p0, p1, .int .i64 p2]).outL = OUT_ref13_SamePixels_4 p0 p1 p2 := (fold_eq (fun l => l) _).trans (by kernel_rfl)
theorem one_ref13_SamePixels_4 : (loopsBy Tryz.prog 12 4).length = 1 := by kernel_rfl
theorem env_ref13_SamePixels_4 : EnvOK Tryz.prog InvN ⟨[], []⟩ ∧ AllOK Tryz.prog InvN [] := ⟨⟨allC_nil, allL_nil⟩, allOK_nil⟩
theorem lp_ref13_SamePixels_4 (meas : List Value → Nat) (h : ∀ p0 p1 p2, inKind (.l [.i .u16, .i .u16, .i .u16, .i .u16, .i .u16]) p0 → inKind (.l [.i .u16, .i .u16, .i .u16, .i .u16, .i .u16]) p1 → IntKind.i64.min ≤ p2 → p2 ≤ IntKind.i64.max → pre_ref13_SamePixels_4 [p0, p1, .int .i64 p2] = true → (evL ⟨[], []⟩ Tryz.prog [] 1000 LC_ref13_SamePixels_4 [p0, p1, .int .i64 p2]).ok = true ∧ okO pre_ref13_SamePixels_4 meas (meas [p0, p1, .int .i64 p2]) (OUT_ref13_SamePixels_4 p0 p1 p2)) : LoopTrue Tryz.prog InvN LC_ref13_SamePixels_4 := loop_lf env_ref13_SamePixels_4 1000 LC_ref13_SamePixels_4 one_ref13_SamePixels_4 meas OL_ref13_SamePixels_4 rfl (fun xs hk hp => by
  have hk : KindsL [.l [.i .u16, .i .u16, .i .u16, .i .u16, .i .u16], .l [.i .u16, .i .u16, .i .u16, .i .u16, .i .u16], .i .i64] xs := hk
  obtain ⟨p0, _, rfl, p0k, p1, _, rfl, p1k, _, _, rfl, ⟨p2, rfl, p2lo, p2hi⟩, rfl⟩ := hk
  have h := h p0 p1 p2 p0k p1k p2lo p2hi hp
  exact ⟨h.1, step_ref13_SamePixels_4 p0 p1 p2, h.2⟩)
theorem ok_ref13_SamePixels_4 : LoopTrue Tryz.prog InvN LC_ref13_SamePixels_4 := lp_ref13_SamePixels_4 (fun xs => (LN (xs.getD 0 undef) - num (xs.getD 2 undef)).toNat) (by
  intro p0 p1 p2 k0 k1 l2 m2 hp
  have hp : (decide (LN p1 = LN p0) && (decide (0 ≤ p2) && decide (p2 ≤ LN p0))) = true := hp
  simp only [Bool.and_eq_true, decide_eq_true_eq] at hp
  obtain ⟨h1, h2, h3⟩ := hp
  rw [okBL_ref13_SamePixels_4]
  refine ⟨bif_ok (fun h => ?_) (fun _ => rfl), ?_⟩
  · have h : p2 < LN p0 := of_decide_eq_true h
    simp only [INB_of (l := p0) h2 h, INB_of (l := p1) h2 (show p2 < LN p1 by omega), cond_true]
  · unfold OUT_ref13_SamePixels_4
    refine okO_bif (fun h => ?_) (fun _ => okO_exit 1)
    have h : p2 < LN p0 := of_decide_eq_true h
    simp only [INB_of (l := p0) h2 h, INB_of (l := p1) h2 (show p2 < LN p1 by omega), cond_true]
    refine okO_bif (fun _ => okO_exit 0) (fun _ => okO_next ?_ ?_)
    · show (decide (LN p1 = LN p0) && (decide (0 ≤ IntKind.i64.wrap (p2 + 1)) && decide (IntKind.i64.wrap (p2 + 1) ≤ LN p0))) = true
      rw [up_in k0 h2 h]
      simp only [Bool.and_eq_true, decide_eq_true_eq]
      omega
    · show (LN p0 - IntKind.i64.wrap (p2 + 1)).toNat < (LN p0 - p2).toNat
      rw [up_in k0 h2 h]
      omega)
noncomputable def L_ref13_SamePixels : List Value → List Value := Classical.choose (veil fun vs => (evFM ⟨[], [LC_ref13_SamePixels_4]⟩ Tryz.prog [] 1000 12 (inL A_ref13_SamePixels vs) R_ref13_SamePixels).outL)
theorem L_ref13_SamePixels_is (vs : List Value) : L_ref13_SamePixels vs = (evFM ⟨[], [LC_ref13_SamePixels_4]⟩ Tryz.prog [] 1000 12 (inL A_ref13_SamePixels vs) R_ref13_SamePixels).outL := Classical.choose_spec (veil fun vs => (evFM ⟨[], [LC_ref13_SamePixels_4]⟩ Tryz.prog [] 1000 12 (inL A_ref13_SamePixels vs) R_ref13_SamePixels).outL) vs
noncomputable def S_ref13_SamePixels : Sum := ⟨12, L_ref13_SamePixels, A_ref13_SamePixels, R_ref13_SamePixels⟩
theorem env_ref13_SamePixels : EnvOK Tryz.prog InvN ⟨[], [LC_ref13_SamePixels_4]⟩ ∧ AllOK Tryz.prog InvN [] := ⟨⟨allC_nil, (allL_cons ok_ref13_SamePixels_4 allL_nil)⟩, allOK_nil⟩
theorem okG_ref13_SamePixels (vs : List Value) : (evFM ⟨[], [LC_ref13_SamePixels_4]⟩ Tryz.prog [] 1000 12 (inL A_ref13_SamePixels vs) R_ref13_SamePixels).goodX R_ref13_SamePixels = true := by kernel_rfl
theorem okB_ref13_SamePixels (p0 : Value) (p1 : Value) : (evFM ⟨[], [LC_ref13_SamePixels_4]⟩ Tryz.prog [] 1000 12 (inL A_ref13_SamePixels [p0, p1]) R_ref13_SamePixels).ok =
    bif ((LN p0) != (LN p1)) then
      (true)
    else
      (bif (pre_ref13_SamePixels_4 [p0, p1, .int .i64 0]) then
        (true)
      else
        (false)) := (okR_eq _).trans (by kernel_rfl)
theorem okA_ref13_SamePixels (h : ∀ p0 p1 , inKind (.l [.i .u16, .i .u16, .i .u16, .i .u16, .i .u16]) p0 → inKind (.l [.i .u16, .i .u16, .i .u16, .i .u16, .i .u16]) p1 → (evFM ⟨[], [LC_ref13_SamePixels_4]⟩ Tryz.prog [] 1000 12 (inL A_ref13_SamePixels [p0, p1]) R_ref13_SamePixels).ok = true) : SumOK Tryz.prog InvN S_ref13_SamePixels := sumOK_partL invN_stays env_ref13_SamePixels.1 env_ref13_SamePixels.2 1000 12 A_ref13_SamePixels R_ref13_SamePixels L_ref13_SamePixels_is okG_ref13_SamePixels (fun vs hk => by
  obtain ⟨p0, _, rfl, p0k, p1, _, rfl, p1k, rfl⟩ := hk
  exact h p0 p1 p0k p1k)
theorem same_start {p0 p1 : Value} (h : LN p0 = LN p1) : pre_ref13_SamePixels_4 [p0, p1, .int .i64 0] = true := by
  show (decide (LN p1 = LN p0) && (decide ((0 : Int) ≤ 0) && decide (0 ≤ LN p0))) = true
  simp only [Bool.and_eq_true, decide_eq_true_eq]
  exact ⟨h.symm, Int.le_refl 0, LN_nonneg p0⟩
theorem ok_ref13_SamePixels : SumOK Tryz.prog InvN S_ref13_SamePixels := okA_ref13_SamePixels (by
  intro p0 p1
  intros
  rw [okB_ref13_SamePixels]
  refine bif_ok (fun _ => rfl) (fun h => ?_)
  simp only [bne_eq_false_iff_eq] at h
  rw [same_start h]
  rfl)
noncomputable def F_ref13_SamePixels (p0 : Value) (p1 : Value) : Bool := tru ((L_ref13_SamePixels [p0, p1]).getD 0 undef)
theorem F_ref13_SamePixels_eq (p0 : Value) (p1 : Value) : F_ref13_SamePixels p0 p1 =
    bif ((LN p0) != (LN p1)) then
      (false)
    else
      (bif (pre_ref13_SamePixels_4 [p0, p1, .int .i64 0]) then
        (let x0 := LF_ref13_SamePixels_4 [p0, p1, .int .i64 0]
        bif (IXT x0 0) then
          ((tru (x0.getD 1 undef)))
        else
          (true))
      else
        ((tru undef))) :=
  spellV (L := L_ref13_SamePixels) (fun l => tru ((l).getD 0 undef)) (evFM ⟨[], [LC_ref13_SamePixels_4]⟩ Tryz.prog [] 1000 12 (inL A_ref13_SamePixels [p0, p1]) R_ref13_SamePixels) (L_ref13_SamePixels_is _) (by kernel_rfl)

/-! compositor/compositorlaw16.SpanRejects -/
def A_law16_SpanRejects : List PS := [.c (.i .i64), .c (.i .i64), .agg [.i .i64, .l [.i .i64, .i .i64, .i .i64, .i .i64, .i .i64]], .agg [.i .i64, .l [.i .i64, .i .i64, .i .i64, .i .i64, .i .i64]], .c (.i .i64), .c (.i .i64), .c (.i .i64), .agg [.i .u16, .i .u16, .i .u16, .i .u16, .i .u16]]
def R_law16_SpanRejects : RS := .one (.c (.b))
noncomputable def L_law16_SpanRejects : List Value → List Value := Classical.choose (veil fun vs => (evFM ⟨[C_span_Composite, C_span_Scale, C_gen_Pixels, C_ref13_CompositeRow, C_ref13_ScaleRow], []⟩ Tryz.prog [S_gen_Mod, S_gen_Max, S_law16_awake, S_ref13_SamePixels] 1000 3 (inL A_law16_SpanRejects vs) R_law16_SpanRejects).outL)
theorem L_law16_SpanRejects_is (vs : List Value) : L_law16_SpanRejects vs = (evFM ⟨[C_span_Composite, C_span_Scale, C_gen_Pixels, C_ref13_CompositeRow, C_ref13_ScaleRow], []⟩ Tryz.prog [S_gen_Mod, S_gen_Max, S_law16_awake, S_ref13_SamePixels] 1000 3 (inL A_law16_SpanRejects vs) R_law16_SpanRejects).outL := Classical.choose_spec (veil fun vs => (evFM ⟨[C_span_Composite, C_span_Scale, C_gen_Pixels, C_ref13_CompositeRow, C_ref13_ScaleRow], []⟩ Tryz.prog [S_gen_Mod, S_gen_Max, S_law16_awake, S_ref13_SamePixels] 1000 3 (inL A_law16_SpanRejects vs) R_law16_SpanRejects).outL) vs
noncomputable def S_law16_SpanRejects : Sum := ⟨3, L_law16_SpanRejects, A_law16_SpanRejects, R_law16_SpanRejects⟩
theorem env_law16_SpanRejects : EnvOK Tryz.prog InvN ⟨[C_span_Composite, C_span_Scale, C_gen_Pixels, C_ref13_CompositeRow, C_ref13_ScaleRow], []⟩ ∧ AllOK Tryz.prog InvN [S_gen_Mod, S_gen_Max, S_law16_awake, S_ref13_SamePixels] := ⟨⟨(allC_cons ok_span_Composite (allC_cons ok_span_Scale (allC_cons ok_gen_Pixels (allC_cons ok_ref13_CompositeRow (allC_cons ok_ref13_ScaleRow allC_nil))))), allL_nil⟩, (allOK_cons ok_gen_Mod.any (allOK_cons ok_gen_Max.any (allOK_cons ok_law16_awake (allOK_cons ok_ref13_SamePixels allOK_nil))))⟩
theorem okG_law16_SpanRejects (vs : List Value) : (evFM ⟨[C_span_Composite, C_span_Scale, C_gen_Pixels, C_ref13_CompositeRow, C_ref13_ScaleRow], []⟩ Tryz.prog [S_gen_Mod, S_gen_Max, S_law16_awake, S_ref13_SamePixels] 1000 3 (inL A_law16_SpanRejects vs) R_law16_SpanRejects).goodX R_law16_SpanRejects = true := by kernel_rfl
theorem okB_law16_SpanRejects (p0 : Int) (p1 : Int) (p2 : Int) (p3 : Value) (p4 : Int) (p5 : Value) (p6 : Int) (p7 : Int) (p8 : Int) (p9 : Int) (p10 : Int) (p11 : Int) (p12 : Int) (p13 : Int) : (evFM ⟨[C_span_Composite, C_span_Scale, C_gen_Pixels, C_ref13_CompositeRow, C_ref13_ScaleRow], []⟩ Tryz.prog [S_gen_Mod, S_gen_Max, S_law16_awake, S_ref13_SamePixels] 1000 3 (inL A_law16_SpanRejects [.int .i64 p0, .int .i64 p1, .int .i64 p2, p3, .int .i64 p4, p5, .int .i64 p6, .int .i64 p7, .int .i64 p8, .int .u16 p9, .int .u16 p10, .int .u16 p11, .int .u16 p12, .int .u16 p13]) R_law16_SpanRejects).ok =
    let x0 := F_gen_Mod p6 8
    let x1 := F_gen_Max p8
    bif (pre_gen_Pixels [.int .i64 p2, p3, .int .i64 (IntKind.i64.wrap (1 + x0)), .int .u16 x1]) then
      (bif (pre_gen_Pixels [.int .i64 p4, p5, .int .i64 (IntKind.i64.wrap (1 + x0)), .int .u16 x1]) then
        (let x2 := F_gen_Pixels p4 p5 (IntKind.i64.wrap (1 + x0)) x1
        bif (TKB x2 (IntKind.i64.wrap ((IntKind.i64.wrap (1 + x0)) - 1))) then
          (let x3 := F_gen_Mod p0 14
          let x4 := F_gen_Mod p1 14
          let x5 := F_gen_Pixels p2 p3 (IntKind.i64.wrap (1 + x0)) x1
          bif (pre_span_Composite [.int .i64 x3, .int .i64 x4, .int .u16 x1, x5, (TK x2 (IntKind.i64.wrap ((IntKind.i64.wrap (1 + x0)) - 1)))]) then
            (bif (MKB 2 (IntKind.i64.wrap ((IntKind.i64.wrap (1 + x0)) + 1)) (IntKind.i64.wrap ((IntKind.i64.wrap (1 + x0)) + 1))) then
              (bif (pre_span_Scale [x5, (RP [.int .u16 0] (IntKind.i64.wrap ((IntKind.i64.wrap (1 + x0)) + 1))), .int .u16 0, .int .u16 x1]) then
                (let x6 := F_gen_Mod p7 (IntKind.i64.wrap (1 + x0))
                bif (INB x5 x6) then
                  (bif (pre_span_Composite [.int .i64 x3, .int .i64 x4, .int .u16 x1, (ST 0 x5 x6 [.int .u16 p9, .int .u16 p10, .int .u16 p11, .int .u16 p12, .int .u16 p13]), x2]) then
                    (bif (pre_ref13_CompositeRow [.int .i64 x3, .int .i64 x4, .int .u16 x1, (ST 0 x5 x6 [.int .u16 p9, .int .u16 p10, .int .u16 p11, .int .u16 p12, .int .u16 p13]), x2]) then
                      (bif (pre_span_Scale [(ST 0 x5 x6 [.int .u16 p9, .int .u16 p10, .int .u16 p11, .int .u16 p12, .int .u16 p13]), NILV, .int .u16 3, .int .u16 x1]) then
                        (bif (pre_ref13_ScaleRow [(ST 0 x5 x6 [.int .u16 p9, .int .u16 p10, .int .u16 p11, .int .u16 p12, .int .u16 p13]), NILV, .int .u16 3, .int .u16 x1]) then
                          (true)
                        else
                          (false))
                      else
                        (false))
                    else
                      (false))
                  else
                    (false))
                else
                  (false))
              else
                (false))
            else
              (false))
          else
            (false))
        else
          (false))
      else
        (false))
    else
      (false) := (okR_eq _).trans (by kernel_rfl)
theorem okA_law16_SpanRejects (h : ∀ p0 p1 p2 p3 p4 p5 p6 p7 p8 p9 p10 p11 p12 p13 , IntKind.i64.min ≤ p0 → p0 ≤ IntKind.i64.max → IntKind.i64.min ≤ p1 → p1 ≤ IntKind.i64.max → IntKind.i64.min ≤ p2 → p2 ≤ IntKind.i64.max → inKind (.l [.i .i64, .i .i64, .i .i64, .i .i64, .i .i64]) p3 → IntKind.i64.min ≤ p4 → p4 ≤ IntKind.i64.max → inKind (.l [.i .i64, .i .i64, .i .i64, .i .i64, .i .i64]) p5 → IntKind.i64.min ≤ p6 → p6 ≤ IntKind.i64.max → IntKind.i64.min ≤ p7 → p7 ≤ IntKind.i64.max → IntKind.i64.min ≤ p8 → p8 ≤ IntKind.i64.max → IntKind.u16.min ≤ p9 → p9 ≤ IntKind.u16.max → IntKind.u16.min ≤ p10 → p10 ≤ IntKind.u16.max → IntKind.u16.min ≤ p11 → p11 ≤ IntKind.u16.max → IntKind.u16.min ≤ p12 → p12 ≤ IntKind.u16.max → IntKind.u16.min ≤ p13 → p13 ≤ IntKind.u16.max → (evFM ⟨[C_span_Composite, C_span_Scale, C_gen_Pixels, C_ref13_CompositeRow, C_ref13_ScaleRow], []⟩ Tryz.prog [S_gen_Mod, S_gen_Max, S_law16_awake, S_ref13_SamePixels] 1000 3 (inL A_law16_SpanRejects [.int .i64 p0, .int .i64 p1, .int .i64 p2, p3, .int .i64 p4, p5, .int .i64 p6, .int .i64 p7, .int .i64 p8, .int .u16 p9, .int .u16 p10, .int .u16 p11, .int .u16 p12, .int .u16 p13]) R_law16_SpanRejects).ok = true) : SumOK Tryz.prog InvN S_law16_SpanRejects := sumOK_partL invN_stays env_law16_SpanRejects.1 env_law16_SpanRejects.2 1000 3 A_law16_SpanRejects R_law16_SpanRejects L_law16_SpanRejects_is okG_law16_SpanRejects (fun vs hk => by
  obtain ⟨_, _, rfl, ⟨p0, rfl, p0lo, p0hi⟩, _, _, rfl, ⟨p1, rfl, p1lo, p1hi⟩, _, _, rfl, ⟨p2, rfl, p2lo, p2hi⟩, p3, _, rfl, p3k, _, _, rfl, ⟨p4, rfl, p4lo, p4hi⟩, p5, _, rfl, p5k, _, _, rfl, ⟨p6, rfl, p6lo, p6hi⟩, _, _, rfl, ⟨p7, rfl, p7lo, p7hi⟩, _, _, rfl, ⟨p8, rfl, p8lo, p8hi⟩, _, _, rfl, ⟨p9, rfl, p9lo, p9hi⟩, _, _, rfl, ⟨p10, rfl, p10lo, p10hi⟩, _, _, rfl, ⟨p11, rfl, p11lo, p11hi⟩, _, _, rfl, ⟨p12, rfl, p12lo, p12hi⟩, _, _, rfl, ⟨p13, rfl, p13lo, p13hi⟩, rfl⟩ := hk
  exact h p0 p1 p2 p3 p4 p5 p6 p7 p8 p9 p10 p11 p12 p13 p0lo p0hi p1lo p1hi p2lo p2hi p3k p4lo p4hi p5k p6lo p6hi p7lo p7hi p8lo p8hi p9lo p9hi p10lo p10hi p11lo p11hi p12lo p12hi p13lo p13hi)
/-- What the law's calls ask for. -/
theorem rej_pres {p2 p4 p6 p7 m : Int} {p3 p5 : Value} (m0 : 0 ≤ m) (m1 : m ≤ 65535) : ∃ c : Int, 1 ≤ c ∧ c ≤ 8 ∧ IntKind.i64.wrap (1 + F_gen_Mod p6 8) = c ∧ IntKind.i64.wrap (c - 1) = c - 1 ∧ IntKind.i64.wrap (c + 1) = c + 1 ∧
    (VR m (F_gen_Pixels p4 p5 c m) ∧ LN (F_gen_Pixels p4 p5 c m) = c) ∧ (VR m (F_gen_Pixels p2 p3 c m) ∧ LN (F_gen_Pixels p2 p3 c m) = c) ∧ (0 ≤ F_gen_Mod p7 c ∧ F_gen_Mod p7 c < c) := by
  have h := mod_bd p6 (n := 8) (by decide) (by decide)
  refine ⟨1 + F_gen_Mod p6 8, by omega, by omega, i64_in (by omega) (by omega), i64_in (by omega) (by omega), i64_in (by omega) (by omega), gPixels m0 m1 (by omega) (by omega), gPixels m0 m1 (by omega) (by omega), mod_bd p7 (by omega) (by omega)⟩
theorem ok_law16_SpanRejects : SumOK Tryz.prog InvN S_law16_SpanRejects := okA_law16_SpanRejects (by
  intro p0 p1 p2 p3 p4 p5 p6 p7 p8 p9 p10 p11 p12 p13
  intros
  have hm := mMax p8
  rw [okB_law16_SpanRejects]
  dsimp only
  generalize F_gen_Max p8 = m at hm ⊢
  obtain ⟨c, c1, c8, e1, e2, e3, ⟨g1, g2⟩, ⟨g3, g4⟩, g5, g6⟩ := rej_pres (p2 := p2) (p3 := p3) (p4 := p4) (p5 := p5) (p6 := p6) (p7 := p7) hm.2.1 hm.2.2
  simp only [e1, e2, e3, pre_pixels (show c ≤ 1000 by omega) (show 0 ≤ c by omega), cond_true, TKB_of (l := F_gen_Pixels p4 p5 c m) (h := c - 1) (by omega) (by omega)]
  have l1 : LN (TK (F_gen_Pixels p4 p5 c m) (c - 1)) = c - 1 := LN_TK (by omega) (by omega)
  have mk : MKB 2 (c + 1) (c + 1) = true := by
    simp only [MKB, Bool.and_eq_true, decide_eq_true_eq]
    omega
  simp only [pre_comp (show LN (F_gen_Pixels p2 p3 c m) ≤ 1000 by omega) (show LN (TK (F_gen_Pixels p4 p5 c m) (c - 1)) ≤ 1000 by omega), mk, pre_scal (show LN (F_gen_Pixels p2 p3 c m) ≤ 1000 by omega), INB_of (l := F_gen_Pixels p2 p3 c m) g5 (by omega), cond_true]
  have ls : ∀ cs, LN (ST 0 (F_gen_Pixels p2 p3 c m) (F_gen_Mod p7 c) cs) ≤ 1000 := fun cs => by rw [LN_ST]; omega
  have r1 : ∀ a b d cs x, pre_ref13_CompositeRow [a, b, d, ST 0 (F_gen_Pixels p2 p3 c m) (F_gen_Mod p7 c) cs, x] = true := fun a b d cs x => decide_eq_true (ls cs)
  have r2 : ∀ b d cs x, pre_ref13_ScaleRow [ST 0 (F_gen_Pixels p2 p3 c m) (F_gen_Mod p7 c) cs, b, d, x] = true := fun b d cs x => decide_eq_true (ls cs)
  simp only [pre_comp (ls _) (show LN (F_gen_Pixels p4 p5 c m) ≤ 1000 by omega), r1, r2, pre_scal (ls _), cond_true])
noncomputable def F_law16_SpanRejects (p0 : Int) (p1 : Int) (p2 : Int) (p3 : Value) (p4 : Int) (p5 : Value) (p6 : Int) (p7 : Int) (p8 : Int) (p9 : Int) (p10 : Int) (p11 : Int) (p12 : Int) (p13 : Int) : Bool := tru ((L_law16_SpanRejects [.int .i64 p0, .int .i64 p1, .int .i64 p2, p3, .int .i64 p4, p5, .int .i64 p6, .int .i64 p7, .int .i64 p8, .int .u16 p9, .int .u16 p10, .int .u16 p11, .int .u16 p12, .int .u16 p13]).getD 0 undef)
theorem F_law16_SpanRejects_eq (p0 : Int) (p1 : Int) (p2 : Int) (p3 : Value) (p4 : Int) (p5 : Value) (p6 : Int) (p7 : Int) (p8 : Int) (p9 : Int) (p10 : Int) (p11 : Int) (p12 : Int) (p13 : Int) : F_law16_SpanRejects p0 p1 p2 p3 p4 p5 p6 p7 p8 p9 p10 p11 p12 p13 =
    let x0 := F_gen_Mod p6 8
    let x1 := F_gen_Max p8
    bif (pre_gen_Pixels [.int .i64 p2, p3, .int .i64 (IntKind.i64.wrap (1 + x0)), .int .u16 x1]) then
      (bif (pre_gen_Pixels [.int .i64 p4, p5, .int .i64 (IntKind.i64.wrap (1 + x0)), .int .u16 x1]) then
        (let x2 := F_gen_Pixels p4 p5 (IntKind.i64.wrap (1 + x0)) x1
        bif (TKB x2 (IntKind.i64.wrap ((IntKind.i64.wrap (1 + x0)) - 1))) then
          (let x3 := F_gen_Mod p0 14
          let x4 := F_gen_Mod p1 14
          let x5 := F_gen_Pixels p2 p3 (IntKind.i64.wrap (1 + x0)) x1
          bif (pre_span_Composite [.int .i64 x3, .int .i64 x4, .int .u16 x1, x5, (TK x2 (IntKind.i64.wrap ((IntKind.i64.wrap (1 + x0)) - 1)))]) then
            (bif (MKB 2 (IntKind.i64.wrap ((IntKind.i64.wrap (1 + x0)) + 1)) (IntKind.i64.wrap ((IntKind.i64.wrap (1 + x0)) + 1))) then
              (bif (pre_span_Scale [x5, (RP [.int .u16 0] (IntKind.i64.wrap ((IntKind.i64.wrap (1 + x0)) + 1))), .int .u16 0, .int .u16 x1]) then
                (let x6 := F_gen_Mod p7 (IntKind.i64.wrap (1 + x0))
                bif (INB x5 x6) then
                  (bif (pre_span_Composite [.int .i64 x3, .int .i64 x4, .int .u16 x1, (ST 0 x5 x6 [.int .u16 p9, .int .u16 p10, .int .u16 p11, .int .u16 p12, .int .u16 p13]), x2]) then
                    (bif (pre_ref13_CompositeRow [.int .i64 x3, .int .i64 x4, .int .u16 x1, (ST 0 x5 x6 [.int .u16 p9, .int .u16 p10, .int .u16 p11, .int .u16 p12, .int .u16 p13]), x2]) then
                      (bif (pre_span_Scale [(ST 0 x5 x6 [.int .u16 p9, .int .u16 p10, .int .u16 p11, .int .u16 p12, .int .u16 p13]), NILV, .int .u16 3, .int .u16 x1]) then
                        (bif (pre_ref13_ScaleRow [(ST 0 x5 x6 [.int .u16 p9, .int .u16 p10, .int .u16 p11, .int .u16 p12, .int .u16 p13]), NILV, .int .u16 3, .int .u16 x1]) then
                          (let x7 := F_law16_awake
                          bif x7 then
                            (let x8 := F_span_Composite x3 x4 x1 x5 (TK x2 (IntKind.i64.wrap ((IntKind.i64.wrap (1 + x0)) - 1)))
                            bif (!x8.2) then
                              (bif ((LN x8.1) == 0) then
                                (let x9 := F_span_Scale x5 (RP [.int .u16 0] (IntKind.i64.wrap ((IntKind.i64.wrap (1 + x0)) + 1))) 0 x1
                                bif (!x9.2) then
                                  (bif ((LN x9.1) == 0) then
                                    (let x10 := F_span_Composite x3 x4 x1 (ST 0 x5 x6 [.int .u16 p9, .int .u16 p10, .int .u16 p11, .int .u16 p12, .int .u16 p13]) x2
                                    let x11 := F_ref13_CompositeRow x3 x4 x1 (ST 0 x5 x6 [.int .u16 p9, .int .u16 p10, .int .u16 p11, .int .u16 p12, .int .u16 p13]) x2
                                    bif (x10.2 == x11.2) then
                                      (let x12 := F_ref13_SamePixels x10.1 x11.1
                                      bif x12 then
                                        (let x13 := F_span_Scale (ST 0 x5 x6 [.int .u16 p9, .int .u16 p10, .int .u16 p11, .int .u16 p12, .int .u16 p13]) NILV 3 x1
                                        let x14 := F_ref13_ScaleRow (ST 0 x5 x6 [.int .u16 p9, .int .u16 p10, .int .u16 p11, .int .u16 p12, .int .u16 p13]) NILV 3 x1
                                        bif (x13.2 == x14.2) then
                                          (let x15 := F_ref13_SamePixels x13.1 x14.1
                                          x15)
                                        else
                                          (false))
                                      else
                                        (false))
                                    else
                                      (false))
                                  else
                                    (false))
                                else
                                  (false))
                              else
                                (false))
                            else
                              (false))
                          else
                            (false))
                        else
                          ((tru undef)))
                      else
                        ((tru undef)))
                    else
                      ((tru undef)))
                  else
                    ((tru undef)))
                else
                  ((tru undef)))
              else
                ((tru undef)))
            else
              ((tru undef)))
          else
            ((tru undef)))
        else
          ((tru undef)))
      else
        ((tru undef)))
    else
      ((tru undef)) :=
  spellV (L := L_law16_SpanRejects) (fun l => tru ((l).getD 0 undef)) (evFM ⟨[C_span_Composite, C_span_Scale, C_gen_Pixels, C_ref13_CompositeRow, C_ref13_ScaleRow], []⟩ Tryz.prog [S_gen_Mod, S_gen_Max, S_law16_awake, S_ref13_SamePixels] 1000 3 (inL A_law16_SpanRejects [.int .i64 p0, .int .i64 p1, .int .i64 p2, p3, .int .i64 p4, p5, .int .i64 p6, .int .i64 p7, .int .i64 p8, .int .u16 p9, .int .u16 p10, .int .u16 p11, .int .u16 p12, .int .u16 p13]) R_law16_SpanRejects) (L_law16_SpanRejects_is _) (by kernel_rfl)
end Go.Proofs.YtfjhhadmncjdiaaGreatDoor
