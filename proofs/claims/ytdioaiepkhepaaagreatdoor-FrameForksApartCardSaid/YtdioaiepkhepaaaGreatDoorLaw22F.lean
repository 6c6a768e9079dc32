/- FrameForksApart: the law. Printed by a program (gen/Gen2.lean) but for the loops' proofs; what each function does is told by the evaluator, and the kernel checks it. No condition. -/
import Derived.Test.YtdioaiepkhepaaaGreatDoorMzs
import Derived.KernelRfl
import Derived.Shelf.Spec.TrailingZeros
import Derived.Laws.Bits64b
namespace Go.Proofs.YtdioaiepkhepaaaGreatDoor
set_option maxRecDepth 100000
open Go.RowKit
def A_law22_FF : List PS := [.c (.l RAW), .c (.l RAW), .c (.i .i64)]
def R_law22_FF : RS := .one (.c (.b))
def head_law22_FF_7 : Shp := ⟨[.p (.c (.h (.l RAW))), .p (.c (.h (.l RAW))), .any, .any, .any, .any, .any, .p (.c (.h (.i .u16))), .p (.c (.p 0 0)), .any, .p (.c (.p 2 0)), .any, .p (.c (.h (.i .i64))), .any, .any, .any, .any, .any, .any, .any, .any, .any, .any, .any, .any, .any, .any, .any, .any, .any, .any, .any, .any, .any, .any, .any, .any, .any, .any, .any, .any, .any, .any, .any, .any, .any, .any, .any, .any, .any, .any, .any, .any, .any, .any, .any, .any, .any, .any, .any, .any, .any, .any, .any, .any, .any, .any, .any, .any, .any, .any, .any, .any, .any, .any, .any, .any, .any, .any, .any, .any, .any, .any, .any, .any, .any, .any, .any, .any, .any], [(0, ⟨[.h (.i .u16), .ar 1 LV 61], 64, true, none⟩), (1, ⟨[], 61, true, some LV⟩), (2, ⟨[.h (.i .u16), .ar 3 LV 67], 70, true, none⟩), (3, ⟨[], 67, true, some LV⟩)]⟩
def outs_law22_FF_7 : List (Xt × Shp × Nat) := [(.ret, ⟨[.any, .any, .any, .any, .any, .any, .p (.c (.h (.b))), .any, .any, .any, .any, .any, .any, .any, .any, .any, .any, .any, .any, .any, .any, .any, .any, .any, .any, .any, .any, .any, .any, .any, .any, .any, .any, .any, .any, .any, .any, .any, .any, .any, .any, .any, .any, .any, .any, .any, .any, .any, .any, .any, .any, .any, .any, .any, .any, .any, .any, .any, .any, .any, .any, .any, .any, .any, .any, .any, .any, .any, .any, .any, .any, .any, .any, .any, .any, .any, .any, .any, .any, .any, .any, .any, .any, .any, .any, .any, .any, .any, .any, .any], []⟩, 0), (.exit 0, ⟨[.any, .p (.c (.h (.l RAW))), .any, .any, .any, .any, .any, .p (.c (.h (.i .u16))), .p (.c (.p 0 0)), .any, .p (.c (.p 2 0)), .any, .any, .any, .any, .any, .any, .any, .any, .any, .any, .any, .any, .any, .any, .any, .any, .any, .any, .any, .any, .any, .any, .any, .any, .any, .any, .any, .any, .any, .any, .any, .any, .any, .any, .any, .any, .any, .any, .any, .any, .any, .any, .any, .any, .any, .any, .any, .any, .any, .any, .any, .any, .any, .any, .any, .any, .any, .any, .any, .any, .any, .any, .any, .any, .any, .any, .any, .any, .any, .any, .any, .any, .any, .any, .any, .any, .any, .any, .any], [(0, ⟨[.h (.i .u16), .ar 1 LV 61], 64, true, none⟩), (1, ⟨[], 61, true, some LV⟩), (2, ⟨[.h (.i .u16), .ar 3 LV 67], 70, true, none⟩), (3, ⟨[], 67, true, some LV⟩)]⟩, 4)]
noncomputable def OUT_law22_FF_7 (p0 p1 : Value) (p2 p3 p4 : Int) (p5 : Value) (p6 : Int) (p7 : Value) : List Value :=
 bif (decide (p3 < (LN p0))) then
 (bif (decide (p3 < 10)) then
 (bif (INB p0 p3) then
 (bif (pre_law22_step [.int .i64 (num (CV (IX p0 p3) 0)), .int .i64 (num (CV (IX p0 p3) 1)), .int .i64 (num (CV (IX p0 p3) 2)), .int .i64 (num (CV (IX p0 p3) 3)), .int .i64 (num (CV (IX p0 p3) 4)), .int .i64 (num (CV (IX p0 p3) 5)), .int .i64 (num (CV (IX p0 p3) 6)), .int .i64 (num (CV (IX p0 p3) 7)), .int .i64 (num (CV (IX p0 p3) 8)), .int .i64 (num (CV (IX p0 p3) 9)), .int .i64 (num (CV (IX p0 p3) 10)), .int .i64 (num (CV (IX p0 p3) 11)), .int .i64 (num (CV (IX p0 p3) 12)), .int .i64 (num (CV (IX p0 p3) 13)), .int .i64 (num (CV (IX p0 p3) 14)), .int .i64 (num (CV (IX p0 p3) 15)), .int .i64 (num (CV (IX p0 p3) 16)), .int .i64 (num (CV (IX p0 p3) 17)), .int .u16 (num (CV (IX p0 p3) 18)), .int .u16 (num (CV (IX p0 p3) 19)), .int .u16 (num (CV (IX p0 p3) 20)), .int .u16 (num (CV (IX p0 p3) 21)), .int .u16 (num (CV (IX p0 p3) 22)), .int .u16 p2, .bool true, .int .u16 p4, p5, .int .u16 p6, p7]) then
 (let x0 := LF_law22_step [.int .i64 (num (CV (IX p0 p3) 0)), .int .i64 (num (CV (IX p0 p3) 1)), .int .i64 (num (CV (IX p0 p3) 2)), .int .i64 (num (CV (IX p0 p3) 3)), .int .i64 (num (CV (IX p0 p3) 4)), .int .i64 (num (CV (IX p0 p3) 5)), .int .i64 (num (CV (IX p0 p3) 6)), .int .i64 (num (CV (IX p0 p3) 7)), .int .i64 (num (CV (IX p0 p3) 8)), .int .i64 (num (CV (IX p0 p3) 9)), .int .i64 (num (CV (IX p0 p3) 10)), .int .i64 (num (CV (IX p0 p3) 11)), .int .i64 (num (CV (IX p0 p3) 12)), .int .i64 (num (CV (IX p0 p3) 13)), .int .i64 (num (CV (IX p0 p3) 14)), .int .i64 (num (CV (IX p0 p3) 15)), .int .i64 (num (CV (IX p0 p3) 16)), .int .i64 (num (CV (IX p0 p3) 17)), .int .u16 (num (CV (IX p0 p3) 18)), .int .u16 (num (CV (IX p0 p3) 19)), .int .u16 (num (CV (IX p0 p3) 20)), .int .u16 (num (CV (IX p0 p3) 21)), .int .u16 (num (CV (IX p0 p3) 22)), .int .u16 p2, .bool true, .int .u16 p4, p5, .int .u16 p6, p7]
 bif (!(tru (x0.getD 1 undef))) then
 ([.int .i64 0, .bool false])
 else
 ([.int .i64 (-1), p0, p1, .int .u16 p2, .int .i64 (IntKind.i64.wrap (p3 + 1)), .int .u16 (num (x0.getD 2 undef)), (x0.getD 3 undef), .int .u16 (num (x0.getD 4 undef)), (x0.getD 5 undef)]))
 else
 ([]))
 else
 ([]))
 else
 ([.int .i64 1, p1, .int .u16 p2, .int .u16 p4, p5, .int .u16 p6, p7]))
 else
 ([.int .i64 1, p1, .int .u16 p2, .int .u16 p4, p5, .int .u16 p6, p7])
noncomputable def OL_law22_FF_7 (xs : List Value) : List Value := OUT_law22_FF_7 (xs.getD 0 undef) (xs.getD 1 undef) (num (xs.getD 2 undef)) (num (xs.getD 3 undef)) (num (xs.getD 4 undef)) (xs.getD 5 undef) (num (xs.getD 6 undef)) (xs.getD 7 undef)
noncomputable def LF_law22_FF_7 : List Value → List Value := LFof OL_law22_FF_7
noncomputable def pre_law22_FF_7 : List Value → Bool := fun vs => decide (0 ≤ num (vs.getD 3 undef)) && oneB (vs.getD 2 undef) (vs.getD 4 undef) (vs.getD 5 undef) (vs.getD 6 undef) (vs.getD 7 undef)
noncomputable def LC_law22_FF_7 : LoopC := ⟨5, 7, LF_law22_FF_7, pre_law22_FF_7, 4, head_law22_FF_7, outs_law22_FF_7⟩
theorem LF_law22_FF_7_go (p0 p1 : Value) (p2 p3 p4 : Int) (p5 : Value) (p6 : Int) (p7 : Value) : LF_law22_FF_7 [p0, p1, .int .u16 p2, .int .i64 p3, .int .u16 p4, p5, .int .u16 p6, p7] = goOn LF_law22_FF_7 (OUT_law22_FF_7 p0 p1 p2 p3 p4 p5 p6 p7) := LFof_eq _ _
theorem okBL_law22_FF_7 (p0 p1 : Value) (p2 p3 p4 : Int) (p5 : Value) (p6 : Int) (p7 : Value) : (evL ⟨[C_slices_Clone, C_law22_same], [LC_law22_step]⟩ Tryz.prog [S_gen_Max, S_r1_Full, S_law22_awake] 1000 LC_law22_FF_7 [p0, p1, .int .u16 p2, .int .i64 p3, .int .u16 p4, p5, .int .u16 p6, p7]).ok =
 bif (decide (p3 < (LN p0))) then
 (bif (decide (p3 < 10)) then
 (bif (INB p0 p3) then
 (bif (pre_law22_step [.int .i64 (num (CV (IX p0 p3) 0)), .int .i64 (num (CV (IX p0 p3) 1)), .int .i64 (num (CV (IX p0 p3) 2)), .int .i64 (num (CV (IX p0 p3) 3)), .int .i64 (num (CV (IX p0 p3) 4)), .int .i64 (num (CV (IX p0 p3) 5)), .int .i64 (num (CV (IX p0 p3) 6)), .int .i64 (num (CV (IX p0 p3) 7)), .int .i64 (num (CV (IX p0 p3) 8)), .int .i64 (num (CV (IX p0 p3) 9)), .int .i64 (num (CV (IX p0 p3) 10)), .int .i64 (num (CV (IX p0 p3) 11)), .int .i64 (num (CV (IX p0 p3) 12)), .int .i64 (num (CV (IX p0 p3) 13)), .int .i64 (num (CV (IX p0 p3) 14)), .int .i64 (num (CV (IX p0 p3) 15)), .int .i64 (num (CV (IX p0 p3) 16)), .int .i64 (num (CV (IX p0 p3) 17)), .int .u16 (num (CV (IX p0 p3) 18)), .int .u16 (num (CV (IX p0 p3) 19)), .int .u16 (num (CV (IX p0 p3) 20)), .int .u16 (num (CV (IX p0 p3) 21)), .int .u16 (num (CV (IX p0 p3) 22)), .int .u16 p2, .bool true, .int .u16 p4, p5, .int .u16 p6, p7]) then
 (true)
 else
 (false))
 else
 (false))
 else
 (true))
 else
 (true) := (okR_eq _).trans (by kernel_rfl)
theorem step_law22_FF_7 (p0 p1 : Value) (p2 p3 p4 : Int) (p5 : Value) (p6 : Int) (p7 : Value) : (evL ⟨[C_slices_Clone, C_law22_same], [LC_law22_step]⟩ Tryz.prog [S_gen_Max, S_r1_Full, S_law22_awake] 1000 LC_law22_FF_7 [p0, p1, .int .u16 p2, .int .i64 p3, .int .u16 p4, p5, .int .u16 p6, p7]).outL = OUT_law22_FF_7 p0 p1 p2 p3 p4 p5 p6 p7 := (fold_eq (fun l => l) _).trans (by kernel_rfl)
theorem one_law22_FF_7 : (loopsBy Tryz.prog 5 7).length = 1 := by kernel_rfl
theorem env_law22_FF_7 : EnvOK Tryz.prog InvN ⟨[C_slices_Clone, C_law22_same], [LC_law22_step]⟩ ∧ AllOK Tryz.prog InvN [S_gen_Max, S_r1_Full, S_law22_awake] := ⟨⟨(allC_cons ok_slices_Clone (allC_cons ok_law22_same allC_nil)), (allL_cons ok_law22_step allL_nil)⟩, (allOK_cons ok_gen_Max.any (allOK_cons ok_r1_Full.any (allOK_cons ok_law22_awake allOK_nil)))⟩
theorem lp_law22_FF_7 (meas : List Value → Nat) (h : ∀ p0 p1 p2 p3 p4 p5 p6 p7, inKind (.l RAW) p0 → inKind (.l RAW) p1 → IntKind.u16.min ≤ p2 → p2 ≤ IntKind.u16.max → IntKind.i64.min ≤ p3 → p3 ≤ IntKind.i64.max → IntKind.u16.min ≤ p4 → p4 ≤ IntKind.u16.max → inKind (.l LV) p5 → IntKind.u16.min ≤ p6 → p6 ≤ IntKind.u16.max → inKind (.l LV) p7 → pre_law22_FF_7 [p0, p1, .int .u16 p2, .int .i64 p3, .int .u16 p4, p5, .int .u16 p6, p7] = true → (evL ⟨[C_slices_Clone, C_law22_same], [LC_law22_step]⟩ Tryz.prog [S_gen_Max, S_r1_Full, S_law22_awake] 1000 LC_law22_FF_7 [p0, p1, .int .u16 p2, .int .i64 p3, .int .u16 p4, p5, .int .u16 p6, p7]).ok = true ∧ okO pre_law22_FF_7 meas (meas [p0, p1, .int .u16 p2, .int .i64 p3, .int .u16 p4, p5, .int .u16 p6, p7]) (OUT_law22_FF_7 p0 p1 p2 p3 p4 p5 p6 p7)) : LoopTrue Tryz.prog InvN LC_law22_FF_7 := loop_lf env_law22_FF_7 1000 LC_law22_FF_7 one_law22_FF_7 meas OL_law22_FF_7 rfl (by
 refine kLc fun p0 p0k => ?_
 refine kLc fun p1 p1k => ?_
 refine kLi fun p2 p2lo p2hi => ?_
 refine kLi fun p3 p3lo p3hi => ?_
 refine kLi fun p4 p4lo p4hi => ?_
 refine kLc fun p5 p5k => ?_
 refine kLi fun p6 p6lo p6hi => ?_
 refine kLc fun p7 p7k => ?_
 refine kLn ?_
 intro hp
 have h := h p0 p1 p2 p3 p4 p5 p6 p7 p0k p1k p2lo p2hi p3lo p3hi p4lo p4hi p5k p6lo p6hi p7k hp
 exact ⟨h.1, step_law22_FF_7 p0 p1 p2 p3 p4 p5 p6 p7, h.2⟩)
theorem ok_law22_FF_7 : LoopTrue Tryz.prog InvN LC_law22_FF_7 := lp_law22_FF_7 (fun xs => (10 - num (xs.getD 3 undef)).toNat) (by
 intro p0 p1 p2 p3 p4 p5 p6 p7 hk _ _ _ _ _ _ _ _ _ _ _ hp
 have hp : (decide (0 ≤ p3) && oneB (.int .u16 p2) (.int .u16 p4) p5 (.int .u16 p6) p7) = true := hp
 simp only [Bool.and_eq_true, decide_eq_true_eq, oneB_iff] at hp
 obtain ⟨h0, m, hm, e1, e2, e3, rfl, g⟩ := hp
 cases e1; cases e2; cases e3
 rw [okBL_law22_FF_7]
 refine ⟨bif_ok (fun h1 => bif_ok (fun h2 => bif_ok (fun _ => ?_) (fun h => bool_no (INB_of h0 (of_decide_eq_true h1)) h)) (fun _ => rfl)) (fun _ => rfl), ?_⟩
 ·simp only [pre_step g, cond_true]
 ·unfold OUT_law22_FF_7
  refine okO_bif (fun h1 => okO_bif (fun h2 => ?_) (fun _ => okO_exit 1)) (fun _ => okO_exit 1)
  have h2 : p3 < 10 := of_decide_eq_true h2
  obtain ⟨L', hx, gl⟩ := stepRaw (e := IX p0 p3) (fr := true) g hm (raw_at hk h0 (of_decide_eq_true h1))
  simp only [INB_of h0 (of_decide_eq_true h1), pre_step g, hx, List.getD_cons_succ, List.getD_cons_zero, num_int, tru, Bool.not_true, cond_true, cond_false]
  refine okO_next ?_ ?_
  ·show (decide (0 ≤ IntKind.i64.wrap (p3 + 1)) && oneB (.int .u16 p2) (.int .u16 p2) L' (.int .u16 p2) L') = true
   rw [i64_in (by omega) (by omega), oneB_of hm gl, decide_eq_true (by omega)]
   rfl
  ·show (10 - IntKind.i64.wrap (p3 + 1)).toNat < _
   rw [i64_in (by omega) (by omega)]
   omega)
theorem fork1_ends {p0 : Value} (hk : inKind (.l RAW) p0) (p1 : Value) {m : Int} (hm : m = 255 ∨ m = 65535) : ∀ (N : Nat) (i : Int) (L : Value), (10 - i).toNat ≤ N → 0 ≤ i → Good L → ∃ L', LF_law22_FF_7 [p0, p1, .int .u16 m, .int .i64 i, .int .u16 m, L, .int .u16 m, L] = [.int .i64 1, p1, .int .u16 m, .int .u16 m, L', .int .u16 m, L'] ∧ Good L'
 | N, i, L, hN, h0, g => by
  rw [LF_law22_FF_7_go]
  unfold OUT_law22_FF_7
  by_cases h1 : i < LN p0
  ·rw [decide_eq_true h1, cond_true]
   by_cases h2 : i < 10
   ·rw [decide_eq_true h2, cond_true]
    obtain ⟨L', hx, gl⟩ := stepRaw (e := IX p0 i) (fr := true) g hm (raw_at hk h0 h1)
    simp only [INB_of h0 h1, pre_step g, hx, List.getD_cons_succ, List.getD_cons_zero, num_int, tru, Bool.not_true, cond_true, cond_false, goOn_next]
    rw [i64_in (by omega) (by omega)]
    match N, hN with
    | 0, hN => exact absurd hN (by omega)
    | N + 1, hN => exact fork1_ends hk p1 hm N (i + 1) L' (by omega) (by omega) gl
   ·rw [decide_eq_false h2]
    exact ⟨L, rfl, g⟩
  ·rw [decide_eq_false h1]
   exact ⟨L, rfl, g⟩
def head_law22_FF_16 : Shp := ⟨[.any, .p (.c (.h (.l RAW))), .any, .any, .any, .any, .any, .p (.c (.h (.i .u16))), .p (.c (.p 0 0)), .any, .p (.c (.p 2 0)), .any, .any, .p (.c (.p 4 0)), .p (.c (.p 6 0)), .p (.c (.h (.i .i64))), .any, .any, .any, .any, .any, .any, .any, .any, .any, .any, .any, .any, .any, .any, .any, .any, .any, .any, .any, .any, .any, .any, .any, .any, .any, .any, .any, .any, .any, .any, .any, .any, .any, .any, .any, .any, .any, .any, .any, .any, .any, .any, .any, .any, .any, .any, .any, .any, .any, .any, .any, .any, .any, .any, .any, .any, .any, .any, .any, .any, .any, .any, .any, .any, .any, .any, .any, .any, .any, .any, .any, .any, .any, .any], [(0, ⟨[.h (.i .u16), .ar 1 LV 61], 64, true, none⟩), (1, ⟨[], 61, true, some LV⟩), (2, ⟨[.h (.i .u16), .ar 3 LV 67], 70, true, none⟩), (3, ⟨[], 67, true, some LV⟩), (4, ⟨[.h (.i .u16), .ar 5 LV 61], 64, true, none⟩), (5, ⟨[], 61, true, some LV⟩), (6, ⟨[.h (.i .u16), .ar 7 LV 67], 70, true, none⟩), (7, ⟨[], 67, true, some LV⟩)]⟩
def outs_law22_FF_16 : List (Xt × Shp × Nat) := [(.ret, ⟨[.any, .any, .any, .any, .any, .any, .p (.c (.h (.b))), .any, .any, .any, .any, .any, .any, .any, .any, .any, .any, .any, .any, .any, .any, .any, .any, .any, .any, .any, .any, .any, .any, .any, .any, .any, .any, .any, .any, .any, .any, .any, .any, .any, .any, .any, .any, .any, .any, .any, .any, .any, .any, .any, .any, .any, .any, .any, .any, .any, .any, .any, .any, .any, .any, .any, .any, .any, .any, .any, .any, .any, .any, .any, .any, .any, .any, .any, .any, .any, .any, .any, .any, .any, .any, .any, .any, .any, .any, .any, .any, .any, .any, .any], []⟩, 0), (.exit 2, ⟨[.any, .any, .any, .any, .any, .any, .any, .any, .p (.c (.p 0 0)), .any, .p (.c (.p 2 0)), .any, .any, .p (.c (.p 4 0)), .p (.c (.p 6 0)), .any, .any, .any, .any, .any, .any, .any, .any, .any, .any, .any, .any, .any, .any, .any, .any, .any, .any, .any, .any, .any, .any, .any, .any, .any, .any, .any, .any, .any, .any, .any, .any, .any, .any, .any, .any, .any, .any, .any, .any, .any, .any, .any, .any, .any, .any, .any, .any, .any, .any, .any, .any, .any, .any, .any, .any, .any, .any, .any, .any, .any, .any, .any, .any, .any, .any, .any, .any, .any, .any, .any, .any, .any, .any, .any], [(0, ⟨[.h (.i .u16), .ar 1 LV 61], 64, true, none⟩), (1, ⟨[], 61, true, some LV⟩), (2, ⟨[.h (.i .u16), .ar 3 LV 67], 70, true, none⟩), (3, ⟨[], 67, true, some LV⟩), (4, ⟨[.h (.i .u16), .ar 5 LV 61], 64, true, none⟩), (5, ⟨[], 61, true, some LV⟩), (6, ⟨[.h (.i .u16), .ar 7 LV 67], 70, true, none⟩), (7, ⟨[], 67, true, some LV⟩)]⟩, 8)]
noncomputable def OUT_law22_FF_16 (p0 : Value) (p1 p2 p3 : Int) (p4 : Value) (p5 : Int) (p6 : Value) (p7 : Int) (p8 : Value) (p9 : Int) (p10 : Value) : List Value :=
 bif (decide (p2 < (LN p0))) then
 (bif (decide (p2 < 10)) then
 (bif (INB p0 p2) then
 (bif (pre_law22_step [.int .i64 (num (CV (IX p0 p2) 0)), .int .i64 (num (CV (IX p0 p2) 1)), .int .i64 (num (CV (IX p0 p2) 2)), .int .i64 (num (CV (IX p0 p2) 3)), .int .i64 (num (CV (IX p0 p2) 4)), .int .i64 (num (CV (IX p0 p2) 5)), .int .i64 (num (CV (IX p0 p2) 6)), .int .i64 (num (CV (IX p0 p2) 7)), .int .i64 (num (CV (IX p0 p2) 8)), .int .i64 (num (CV (IX p0 p2) 9)), .int .i64 (num (CV (IX p0 p2) 10)), .int .i64 (num (CV (IX p0 p2) 11)), .int .i64 (num (CV (IX p0 p2) 12)), .int .i64 (num (CV (IX p0 p2) 13)), .int .i64 (num (CV (IX p0 p2) 14)), .int .i64 (num (CV (IX p0 p2) 15)), .int .i64 (num (CV (IX p0 p2) 16)), .int .i64 (num (CV (IX p0 p2) 17)), .int .u16 (num (CV (IX p0 p2) 18)), .int .u16 (num (CV (IX p0 p2) 19)), .int .u16 (num (CV (IX p0 p2) 20)), .int .u16 (num (CV (IX p0 p2) 21)), .int .u16 (num (CV (IX p0 p2) 22)), .int .u16 p1, .bool true, .int .u16 p7, p8, .int .u16 p9, p10]) then
 (let x0 := LF_law22_step [.int .i64 (num (CV (IX p0 p2) 0)), .int .i64 (num (CV (IX p0 p2) 1)), .int .i64 (num (CV (IX p0 p2) 2)), .int .i64 (num (CV (IX p0 p2) 3)), .int .i64 (num (CV (IX p0 p2) 4)), .int .i64 (num (CV (IX p0 p2) 5)), .int .i64 (num (CV (IX p0 p2) 6)), .int .i64 (num (CV (IX p0 p2) 7)), .int .i64 (num (CV (IX p0 p2) 8)), .int .i64 (num (CV (IX p0 p2) 9)), .int .i64 (num (CV (IX p0 p2) 10)), .int .i64 (num (CV (IX p0 p2) 11)), .int .i64 (num (CV (IX p0 p2) 12)), .int .i64 (num (CV (IX p0 p2) 13)), .int .i64 (num (CV (IX p0 p2) 14)), .int .i64 (num (CV (IX p0 p2) 15)), .int .i64 (num (CV (IX p0 p2) 16)), .int .i64 (num (CV (IX p0 p2) 17)), .int .u16 (num (CV (IX p0 p2) 18)), .int .u16 (num (CV (IX p0 p2) 19)), .int .u16 (num (CV (IX p0 p2) 20)), .int .u16 (num (CV (IX p0 p2) 21)), .int .u16 (num (CV (IX p0 p2) 22)), .int .u16 p1, .bool true, .int .u16 p7, p8, .int .u16 p9, p10]
 bif (!(tru (x0.getD 1 undef))) then
 ([.int .i64 0, .bool false])
 else
 ([.int .i64 (-1), p0, .int .u16 p1, .int .i64 (IntKind.i64.wrap (p2 + 1)), .int .u16 p3, p4, .int .u16 p5, p6, .int .u16 (num (x0.getD 2 undef)), (x0.getD 3 undef), .int .u16 (num (x0.getD 4 undef)), (x0.getD 5 undef)]))
 else
 ([]))
 else
 ([]))
 else
 ([.int .i64 1, .int .u16 p3, p4, .int .u16 p5, p6, .int .u16 p7, p8, .int .u16 p9, p10]))
 else
 ([.int .i64 1, .int .u16 p3, p4, .int .u16 p5, p6, .int .u16 p7, p8, .int .u16 p9, p10])
noncomputable def OL_law22_FF_16 (xs : List Value) : List Value := OUT_law22_FF_16 (xs.getD 0 undef) (num (xs.getD 1 undef)) (num (xs.getD 2 undef)) (num (xs.getD 3 undef)) (xs.getD 4 undef) (num (xs.getD 5 undef)) (xs.getD 6 undef) (num (xs.getD 7 undef)) (xs.getD 8 undef) (num (xs.getD 9 undef)) (xs.getD 10 undef)
noncomputable def LF_law22_FF_16 : List Value → List Value := LFof OL_law22_FF_16
noncomputable def pre_law22_FF_16 : List Value → Bool := fun vs => decide (0 ≤ num (vs.getD 2 undef)) && oneB (vs.getD 1 undef) (vs.getD 7 undef) (vs.getD 8 undef) (vs.getD 9 undef) (vs.getD 10 undef)
noncomputable def LC_law22_FF_16 : LoopC := ⟨5, 16, LF_law22_FF_16, pre_law22_FF_16, 8, head_law22_FF_16, outs_law22_FF_16⟩
theorem LF_law22_FF_16_go (p0 : Value) (p1 p2 p3 : Int) (p4 : Value) (p5 : Int) (p6 : Value) (p7 : Int) (p8 : Value) (p9 : Int) (p10 : Value) : LF_law22_FF_16 [p0, .int .u16 p1, .int .i64 p2, .int .u16 p3, p4, .int .u16 p5, p6, .int .u16 p7, p8, .int .u16 p9, p10] = goOn LF_law22_FF_16 (OUT_law22_FF_16 p0 p1 p2 p3 p4 p5 p6 p7 p8 p9 p10) := LFof_eq _ _
theorem okBL_law22_FF_16 (p0 : Value) (p1 p2 p3 : Int) (p4 : Value) (p5 : Int) (p6 : Value) (p7 : Int) (p8 : Value) (p9 : Int) (p10 : Value) : (evL ⟨[C_slices_Clone, C_law22_same], [LC_law22_step, LC_law22_FF_7]⟩ Tryz.prog [S_gen_Max, S_r1_Full, S_law22_awake] 1000 LC_law22_FF_16 [p0, .int .u16 p1, .int .i64 p2, .int .u16 p3, p4, .int .u16 p5, p6, .int .u16 p7, p8, .int .u16 p9, p10]).ok =
 bif (decide (p2 < (LN p0))) then
 (bif (decide (p2 < 10)) then
 (bif (INB p0 p2) then
 (bif (pre_law22_step [.int .i64 (num (CV (IX p0 p2) 0)), .int .i64 (num (CV (IX p0 p2) 1)), .int .i64 (num (CV (IX p0 p2) 2)), .int .i64 (num (CV (IX p0 p2) 3)), .int .i64 (num (CV (IX p0 p2) 4)), .int .i64 (num (CV (IX p0 p2) 5)), .int .i64 (num (CV (IX p0 p2) 6)), .int .i64 (num (CV (IX p0 p2) 7)), .int .i64 (num (CV (IX p0 p2) 8)), .int .i64 (num (CV (IX p0 p2) 9)), .int .i64 (num (CV (IX p0 p2) 10)), .int .i64 (num (CV (IX p0 p2) 11)), .int .i64 (num (CV (IX p0 p2) 12)), .int .i64 (num (CV (IX p0 p2) 13)), .int .i64 (num (CV (IX p0 p2) 14)), .int .i64 (num (CV (IX p0 p2) 15)), .int .i64 (num (CV (IX p0 p2) 16)), .int .i64 (num (CV (IX p0 p2) 17)), .int .u16 (num (CV (IX p0 p2) 18)), .int .u16 (num (CV (IX p0 p2) 19)), .int .u16 (num (CV (IX p0 p2) 20)), .int .u16 (num (CV (IX p0 p2) 21)), .int .u16 (num (CV (IX p0 p2) 22)), .int .u16 p1, .bool true, .int .u16 p7, p8, .int .u16 p9, p10]) then
 (true)
 else
 (false))
 else
 (false))
 else
 (true))
 else
 (true) := (okR_eq _).trans (by kernel_rfl)
theorem step_law22_FF_16 (p0 : Value) (p1 p2 p3 : Int) (p4 : Value) (p5 : Int) (p6 : Value) (p7 : Int) (p8 : Value) (p9 : Int) (p10 : Value) : (evL ⟨[C_slices_Clone, C_law22_same], [LC_law22_step, LC_law22_FF_7]⟩ Tryz.prog [S_gen_Max, S_r1_Full, S_law22_awake] 1000 LC_law22_FF_16 [p0, .int .u16 p1, .int .i64 p2, .int .u16 p3, p4, .int .u16 p5, p6, .int .u16 p7, p8, .int .u16 p9, p10]).outL = OUT_law22_FF_16 p0 p1 p2 p3 p4 p5 p6 p7 p8 p9 p10 := (fold_eq (fun l => l) _).trans (by kernel_rfl)
theorem one_law22_FF_16 : (loopsBy Tryz.prog 5 16).length = 1 := by kernel_rfl
theorem env_law22_FF_16 : EnvOK Tryz.prog InvN ⟨[C_slices_Clone, C_law22_same], [LC_law22_step, LC_law22_FF_7]⟩ ∧ AllOK Tryz.prog InvN [S_gen_Max, S_r1_Full, S_law22_awake] := ⟨⟨(allC_cons ok_slices_Clone (allC_cons ok_law22_same allC_nil)), (allL_cons ok_law22_step (allL_cons ok_law22_FF_7 allL_nil))⟩, (allOK_cons ok_gen_Max.any (allOK_cons ok_r1_Full.any (allOK_cons ok_law22_awake allOK_nil)))⟩
theorem lp_law22_FF_16 (meas : List Value → Nat) (h : ∀ p0 p1 p2 p3 p4 p5 p6 p7 p8 p9 p10, inKind (.l RAW) p0 → IntKind.u16.min ≤ p1 → p1 ≤ IntKind.u16.max → IntKind.i64.min ≤ p2 → p2 ≤ IntKind.i64.max → IntKind.u16.min ≤ p3 → p3 ≤ IntKind.u16.max → inKind (.l LV) p4 → IntKind.u16.min ≤ p5 → p5 ≤ IntKind.u16.max → inKind (.l LV) p6 → IntKind.u16.min ≤ p7 → p7 ≤ IntKind.u16.max → inKind (.l LV) p8 → IntKind.u16.min ≤ p9 → p9 ≤ IntKind.u16.max → inKind (.l LV) p10 → pre_law22_FF_16 [p0, .int .u16 p1, .int .i64 p2, .int .u16 p3, p4, .int .u16 p5, p6, .int .u16 p7, p8, .int .u16 p9, p10] = true → (evL ⟨[C_slices_Clone, C_law22_same], [LC_law22_step, LC_law22_FF_7]⟩ Tryz.prog [S_gen_Max, S_r1_Full, S_law22_awake] 1000 LC_law22_FF_16 [p0, .int .u16 p1, .int .i64 p2, .int .u16 p3, p4, .int .u16 p5, p6, .int .u16 p7, p8, .int .u16 p9, p10]).ok = true ∧ okO pre_law22_FF_16 meas (meas [p0, .int .u16 p1, .int .i64 p2, .int .u16 p3, p4, .int .u16 p5, p6, .int .u16 p7, p8, .int .u16 p9, p10]) (OUT_law22_FF_16 p0 p1 p2 p3 p4 p5 p6 p7 p8 p9 p10)) : LoopTrue Tryz.prog InvN LC_law22_FF_16 := loop_lf env_law22_FF_16 1000 LC_law22_FF_16 one_law22_FF_16 meas OL_law22_FF_16 rfl (by
 refine kLc fun p0 p0k => ?_
 refine kLi fun p1 p1lo p1hi => ?_
 refine kLi fun p2 p2lo p2hi => ?_
 refine kLi fun p3 p3lo p3hi => ?_
 refine kLc fun p4 p4k => ?_
 refine kLi fun p5 p5lo p5hi => ?_
 refine kLc fun p6 p6k => ?_
 refine kLi fun p7 p7lo p7hi => ?_
 refine kLc fun p8 p8k => ?_
 refine kLi fun p9 p9lo p9hi => ?_
 refine kLc fun p10 p10k => ?_
 refine kLn ?_
 intro hp
 have h := h p0 p1 p2 p3 p4 p5 p6 p7 p8 p9 p10 p0k p1lo p1hi p2lo p2hi p3lo p3hi p4k p5lo p5hi p6k p7lo p7hi p8k p9lo p9hi p10k hp
 exact ⟨h.1, step_law22_FF_16 p0 p1 p2 p3 p4 p5 p6 p7 p8 p9 p10, h.2⟩)
theorem ok_law22_FF_16 : LoopTrue Tryz.prog InvN LC_law22_FF_16 := lp_law22_FF_16 (fun xs => (10 - num (xs.getD 2 undef)).toNat) (by
 intro p0 p1 p2 p3 p4 p5 p6 p7 p8 p9 p10 hk _ _ _ _ _ _ _ _ _ _ _ _ _ _ _ _ hp
 have hp : (decide (0 ≤ p2) && oneB (.int .u16 p1) (.int .u16 p7) p8 (.int .u16 p9) p10) = true := hp
 simp only [Bool.and_eq_true, decide_eq_true_eq, oneB_iff] at hp
 obtain ⟨h0, m, hm, e1, e2, e3, rfl, g⟩ := hp
 cases e1; cases e2; cases e3
 rw [okBL_law22_FF_16]
 refine ⟨bif_ok (fun h1 => bif_ok (fun h2 => bif_ok (fun _ => ?_) (fun h => bool_no (INB_of h0 (of_decide_eq_true h1)) h)) (fun _ => rfl)) (fun _ => rfl), ?_⟩
 ·simp only [pre_step g, cond_true]
 ·unfold OUT_law22_FF_16
  refine okO_bif (fun h1 => okO_bif (fun h2 => ?_) (fun _ => okO_exit 1)) (fun _ => okO_exit 1)
  have h2 : p2 < 10 := of_decide_eq_true h2
  obtain ⟨L', hx, gl⟩ := stepRaw (e := IX p0 p2) (fr := true) g hm (raw_at hk h0 (of_decide_eq_true h1))
  simp only [INB_of h0 (of_decide_eq_true h1), pre_step g, hx, List.getD_cons_succ, List.getD_cons_zero, num_int, tru, Bool.not_true, cond_true, cond_false]
  refine okO_next ?_ ?_
  ·show (decide (0 ≤ IntKind.i64.wrap (p2 + 1)) && oneB (.int .u16 p1) (.int .u16 p1) L' (.int .u16 p1) L') = true
   rw [i64_in (by omega) (by omega), oneB_of hm gl, decide_eq_true (by omega)]
   rfl
  ·show (10 - IntKind.i64.wrap (p2 + 1)).toNat < _
   rw [i64_in (by omega) (by omega)]
   omega)
theorem fork2_ends {p0 : Value} (hk : inKind (.l RAW) p0) (a b : Int) (A B : Value) {m : Int} (hm : m = 255 ∨ m = 65535) : ∀ (N : Nat) (i : Int) (L : Value), (10 - i).toNat ≤ N → 0 ≤ i → Good L → ∃ L', LF_law22_FF_16 [p0, .int .u16 m, .int .i64 i, .int .u16 a, A, .int .u16 b, B, .int .u16 m, L, .int .u16 m, L] = [.int .i64 1, .int .u16 a, A, .int .u16 b, B, .int .u16 m, L', .int .u16 m, L'] ∧ Good L'
 | N, i, L, hN, h0, g => by
  rw [LF_law22_FF_16_go]
  unfold OUT_law22_FF_16
  by_cases h1 : i < LN p0
  ·rw [decide_eq_true h1, cond_true]
   by_cases h2 : i < 10
   ·rw [decide_eq_true h2, cond_true]
    obtain ⟨L', hx, gl⟩ := stepRaw (e := IX p0 i) (fr := true) g hm (raw_at hk h0 h1)
    simp only [INB_of h0 h1, pre_step g, hx, List.getD_cons_succ, List.getD_cons_zero, num_int, tru, Bool.not_true, cond_true, cond_false, goOn_next]
    rw [i64_in (by omega) (by omega)]
    match N, hN with
    | 0, hN => exact absurd hN (by omega)
    | N + 1, hN => exact fork2_ends hk a b A B hm N (i + 1) L' (by omega) (by omega) gl
   ·rw [decide_eq_false h2]
    exact ⟨L, rfl, g⟩
  ·rw [decide_eq_false h1]
   exact ⟨L, rfl, g⟩
noncomputable def L_law22_FF : List Value → List Value := Classical.choose (veil fun vs => (evFM ⟨[C_slices_Clone, C_law22_same], [LC_law22_step, LC_law22_FF_7, LC_law22_FF_16]⟩ Tryz.prog [S_gen_Max, S_r1_Full, S_law22_awake] 1000 5 (inL A_law22_FF vs) R_law22_FF).outL)
theorem L_law22_FF_is (vs : List Value) : L_law22_FF vs = (evFM ⟨[C_slices_Clone, C_law22_same], [LC_law22_step, LC_law22_FF_7, LC_law22_FF_16]⟩ Tryz.prog [S_gen_Max, S_r1_Full, S_law22_awake] 1000 5 (inL A_law22_FF vs) R_law22_FF).outL := Classical.choose_spec (veil _) vs
noncomputable def S_law22_FF : Sum := ⟨5, L_law22_FF, A_law22_FF, R_law22_FF⟩
theorem env_law22_FF : EnvOK Tryz.prog InvN ⟨[C_slices_Clone, C_law22_same], [LC_law22_step, LC_law22_FF_7, LC_law22_FF_16]⟩ ∧ AllOK Tryz.prog InvN [S_gen_Max, S_r1_Full, S_law22_awake] := ⟨⟨(allC_cons ok_slices_Clone (allC_cons ok_law22_same allC_nil)), (allL_cons ok_law22_step (allL_cons ok_law22_FF_7 (allL_cons ok_law22_FF_16 allL_nil)))⟩, (allOK_cons ok_gen_Max.any (allOK_cons ok_r1_Full.any (allOK_cons ok_law22_awake allOK_nil)))⟩
theorem okG_law22_FF (vs : List Value) : (evFM ⟨[C_slices_Clone, C_law22_same], [LC_law22_step, LC_law22_FF_7, LC_law22_FF_16]⟩ Tryz.prog [S_gen_Max, S_r1_Full, S_law22_awake] 1000 5 (inL A_law22_FF vs) R_law22_FF).goodX R_law22_FF = true := by kernel_rfl
theorem okB_law22_FF (p0 p1 : Value) (p2 : Int) : (evFM ⟨[C_slices_Clone, C_law22_same], [LC_law22_step, LC_law22_FF_7, LC_law22_FF_16]⟩ Tryz.prog [S_gen_Max, S_r1_Full, S_law22_awake] 1000 5 (inL A_law22_FF [p0, p1, .int .i64 p2]) R_law22_FF).ok =
 let x0 := F_gen_Max p2
 bif (x0 != 255) then
 (bif (x0 != 65535) then
 (true)
 else
 (let x1 := F_r1_Full x0
 bif (!x1) then
 (let x2 := F_law22_awake
 bif (!x2) then
 (true)
 else
 (false))
 else
 (let x3 := F_law22_awake
 bif (!x3) then
 (true)
 else
 (bif (pre_law22_FF_7 [p0, p1, .int .u16 x0, .int .i64 0, .int .u16 x0, (LSV 23 1 baseC), .int .u16 x0, (LSV 23 1 baseC)]) then
 (let x4 := LF_law22_FF_7 [p0, p1, .int .u16 x0, .int .i64 0, .int .u16 x0, (LSV 23 1 baseC), .int .u16 x0, (LSV 23 1 baseC)]
 bif (IXT x4 0) then
 (true)
 else
 (bif (pre_slices_Clone [(x4.getD 4 undef)]) then
 (bif (RO 112 (CT NILV (x4.getD 6 undef))) then
 (let x5 := F_slices_Clone (x4.getD 4 undef)
 bif (pre_law22_FF_16 [(x4.getD 1 undef), .int .u16 (num (x4.getD 2 undef)), .int .i64 0, .int .u16 (num (x4.getD 3 undef)), (x4.getD 4 undef), .int .u16 (num (x4.getD 5 undef)), (x4.getD 6 undef), .int .u16 (num (x4.getD 3 undef)), x5, .int .u16 (num (x4.getD 5 undef)), (CT NILV (x4.getD 6 undef))]) then
 (let x6 := LF_law22_FF_16 [(x4.getD 1 undef), .int .u16 (num (x4.getD 2 undef)), .int .i64 0, .int .u16 (num (x4.getD 3 undef)), (x4.getD 4 undef), .int .u16 (num (x4.getD 5 undef)), (x4.getD 6 undef), .int .u16 (num (x4.getD 3 undef)), x5, .int .u16 (num (x4.getD 5 undef)), (CT NILV (x4.getD 6 undef))]
 bif (IXT x6 0) then
 (true)
 else
 (bif (pre_law22_same [(PK [.int .u16 (num (x6.getD 1 undef)), (x6.getD 2 undef)]), (PK [.int .u16 (num (x6.getD 3 undef)), (x6.getD 4 undef)])]) then
 (let x7 := F_law22_same (PK [.int .u16 (num (x6.getD 1 undef)), (x6.getD 2 undef)]) (PK [.int .u16 (num (x6.getD 3 undef)), (x6.getD 4 undef)])
 bif x7 then
 (bif (pre_law22_same [(PK [.int .u16 (num (x6.getD 5 undef)), (x6.getD 6 undef)]), (PK [.int .u16 (num (x6.getD 7 undef)), (x6.getD 8 undef)])]) then
 (true)
 else
 (false))
 else
 (true))
 else
 (false)))
 else
 (false))
 else
 (false))
 else
 (false)))
 else
 (false)))))
 else
 (let x8 := F_r1_Full x0
 bif (!x8) then
 (let x9 := F_law22_awake
 bif (!x9) then
 (true)
 else
 (false))
 else
 (let x10 := F_law22_awake
 bif (!x10) then
 (true)
 else
 (bif (pre_law22_FF_7 [p0, p1, .int .u16 x0, .int .i64 0, .int .u16 x0, (LSV 23 1 baseC), .int .u16 x0, (LSV 23 1 baseC)]) then
 (let x11 := LF_law22_FF_7 [p0, p1, .int .u16 x0, .int .i64 0, .int .u16 x0, (LSV 23 1 baseC), .int .u16 x0, (LSV 23 1 baseC)]
 bif (IXT x11 0) then
 (true)
 else
 (bif (pre_slices_Clone [(x11.getD 4 undef)]) then
 (bif (RO 112 (CT NILV (x11.getD 6 undef))) then
 (let x12 := F_slices_Clone (x11.getD 4 undef)
 bif (pre_law22_FF_16 [(x11.getD 1 undef), .int .u16 (num (x11.getD 2 undef)), .int .i64 0, .int .u16 (num (x11.getD 3 undef)), (x11.getD 4 undef), .int .u16 (num (x11.getD 5 undef)), (x11.getD 6 undef), .int .u16 (num (x11.getD 3 undef)), x12, .int .u16 (num (x11.getD 5 undef)), (CT NILV (x11.getD 6 undef))]) then
 (let x13 := LF_law22_FF_16 [(x11.getD 1 undef), .int .u16 (num (x11.getD 2 undef)), .int .i64 0, .int .u16 (num (x11.getD 3 undef)), (x11.getD 4 undef), .int .u16 (num (x11.getD 5 undef)), (x11.getD 6 undef), .int .u16 (num (x11.getD 3 undef)), x12, .int .u16 (num (x11.getD 5 undef)), (CT NILV (x11.getD 6 undef))]
 bif (IXT x13 0) then
 (true)
 else
 (bif (pre_law22_same [(PK [.int .u16 (num (x13.getD 1 undef)), (x13.getD 2 undef)]), (PK [.int .u16 (num (x13.getD 3 undef)), (x13.getD 4 undef)])]) then
 (let x14 := F_law22_same (PK [.int .u16 (num (x13.getD 1 undef)), (x13.getD 2 undef)]) (PK [.int .u16 (num (x13.getD 3 undef)), (x13.getD 4 undef)])
 bif x14 then
 (bif (pre_law22_same [(PK [.int .u16 (num (x13.getD 5 undef)), (x13.getD 6 undef)]), (PK [.int .u16 (num (x13.getD 7 undef)), (x13.getD 8 undef)])]) then
 (true)
 else
 (false))
 else
 (true))
 else
 (false)))
 else
 (false))
 else
 (false))
 else
 (false)))
 else
 (false)))) := (okR_eq _).trans (by kernel_rfl)
theorem okA_law22_FF (h : ∀ p0 p1 p2 , inKind (.l RAW) p0 → inKind (.l RAW) p1 → IntKind.i64.min ≤ p2 → p2 ≤ IntKind.i64.max → (evFM ⟨[C_slices_Clone, C_law22_same], [LC_law22_step, LC_law22_FF_7, LC_law22_FF_16]⟩ Tryz.prog [S_gen_Max, S_r1_Full, S_law22_awake] 1000 5 (inL A_law22_FF [p0, p1, .int .i64 p2]) R_law22_FF).ok = true) : SumOK Tryz.prog InvN S_law22_FF := sumOK_partL invN_stays env_law22_FF.1 env_law22_FF.2 1000 5 A_law22_FF R_law22_FF L_law22_FF_is okG_law22_FF (by
 refine kLc fun p0 p0k => ?_
 refine kLc fun p1 p1k => ?_
 refine kLi fun p2 p2lo p2hi => ?_
 refine kLn ?_
 exact h p0 p1 p2 p0k p1k p2lo p2hi)
theorem fork1_start (p0 p1 : Value) {m : Int} (hm : m = 255 ∨ m = 65535) : pre_law22_FF_7 [p0, p1, .int .u16 m, .int .i64 0, .int .u16 m, LSV 23 1 baseC, .int .u16 m, LSV 23 1 baseC] = true := by
 show (decide ((0 : Int) ≤ 0) && oneB (.int .u16 m) (.int .u16 m) (LSV 23 1 baseC) (.int .u16 m) (LSV 23 1 baseC)) = true
 rw [oneB_of hm base_good]
 rfl
theorem fork2_start (p0 A B : Value) (a b : Int) {m : Int} (hm : m = 255 ∨ m = 65535) {L : Value} (g : Good L) : pre_law22_FF_16 [p0, .int .u16 m, .int .i64 0, .int .u16 a, A, .int .u16 b, B, .int .u16 m, L, .int .u16 m, L] = true := by
 show (decide ((0 : Int) ≤ 0) && oneB (.int .u16 m) (.int .u16 m) L (.int .u16 m) L) = true
 rw [oneB_of hm g]
 rfl
theorem ok_law22_FF : SumOK Tryz.prog InvN S_law22_FF := okA_law22_FF (by
 intro p0 p1 p2 k0 k1 _ _
 rw [okB_law22_FF]
 dsimp only
 have hm := gMax_or p2
 generalize F_gen_Max p2 = m at hm ⊢
 obtain ⟨L, hx, g⟩ := fork1_ends k0 p1 hm _ 0 _ (Nat.le_refl _) (Int.le_refl 0) base_good
 obtain ⟨L', hx', g'⟩ := fork2_ends k1 m m L L hm _ 0 _ (Nat.le_refl _) (Int.le_refl 0) g
 have hp := fork1_start p0 p1 hm
 have hp' := fork2_start p1 L L m m hm g
 have hc : pre_slices_Clone [L] = true := g.ok
 have hc' : F_slices_Clone L = L := by rw [clone_eq g.ok, clone_id g]
 have hr : RO 112 L = true := by have := lenOK.clone g.ok; rwa [clone_id g] at this
 have ix : IXT [.int .i64 1, p1, .int .u16 m, .int .u16 m, L, .int .u16 m, L] 0 = false := rfl
 have ix' : IXT [.int .i64 1, .int .u16 m, L, .int .u16 m, L, .int .u16 m, L', .int .u16 m, L'] 0 = false := rfl
 simp only [awake22, full_dec, decide_eq_true hm, hp, hx, hc, hc', hr, ix, hp', hx', ix', clone_id g, List.getD_cons_succ, List.getD_cons_zero, num_int, pre_same g, pre_same g', cond_true, cond_false, Bool.not_true]
 repeat' (first | with_reducible rfl | refine bif_ok (fun h => ?_) (fun h => ?_)))
noncomputable def F_law22_FF (p0 p1 : Value) (p2 : Int) : Bool := (fun l => tru (l.getD 0 undef)) (L_law22_FF [p0, p1, .int .i64 p2])
theorem F_law22_FF_eq (p0 p1 : Value) (p2 : Int) : F_law22_FF p0 p1 p2 =
 let x0 := F_gen_Max p2
 bif (x0 != 255) then
 (bif (x0 != 65535) then
 (let x1 := F_r1_Full x0
 bif (!x1) then
 (false)
 else
 (false))
 else
 (let x2 := F_r1_Full x0
 bif (!x2) then
 (let x3 := F_law22_awake
 bif (!x3) then
 (false)
 else
 ((tru undef)))
 else
 (let x4 := F_law22_awake
 bif (!x4) then
 (false)
 else
 (bif (pre_law22_FF_7 [p0, p1, .int .u16 x0, .int .i64 0, .int .u16 x0, (LSV 23 1 baseC), .int .u16 x0, (LSV 23 1 baseC)]) then
 (let x5 := LF_law22_FF_7 [p0, p1, .int .u16 x0, .int .i64 0, .int .u16 x0, (LSV 23 1 baseC), .int .u16 x0, (LSV 23 1 baseC)]
 bif (IXT x5 0) then
 ((tru (x5.getD 1 undef)))
 else
 (bif (pre_slices_Clone [(x5.getD 4 undef)]) then
 (bif (RO 112 (CT NILV (x5.getD 6 undef))) then
 (let x6 := F_slices_Clone (x5.getD 4 undef)
 bif (pre_law22_FF_16 [(x5.getD 1 undef), .int .u16 (num (x5.getD 2 undef)), .int .i64 0, .int .u16 (num (x5.getD 3 undef)), (x5.getD 4 undef), .int .u16 (num (x5.getD 5 undef)), (x5.getD 6 undef), .int .u16 (num (x5.getD 3 undef)), x6, .int .u16 (num (x5.getD 5 undef)), (CT NILV (x5.getD 6 undef))]) then
 (let x7 := LF_law22_FF_16 [(x5.getD 1 undef), .int .u16 (num (x5.getD 2 undef)), .int .i64 0, .int .u16 (num (x5.getD 3 undef)), (x5.getD 4 undef), .int .u16 (num (x5.getD 5 undef)), (x5.getD 6 undef), .int .u16 (num (x5.getD 3 undef)), x6, .int .u16 (num (x5.getD 5 undef)), (CT NILV (x5.getD 6 undef))]
 bif (IXT x7 0) then
 ((tru (x7.getD 1 undef)))
 else
 (bif (pre_law22_same [(PK [.int .u16 (num (x7.getD 1 undef)), (x7.getD 2 undef)]), (PK [.int .u16 (num (x7.getD 3 undef)), (x7.getD 4 undef)])]) then
 (let x8 := F_law22_same (PK [.int .u16 (num (x7.getD 1 undef)), (x7.getD 2 undef)]) (PK [.int .u16 (num (x7.getD 3 undef)), (x7.getD 4 undef)])
 bif x8 then
 (bif (pre_law22_same [(PK [.int .u16 (num (x7.getD 5 undef)), (x7.getD 6 undef)]), (PK [.int .u16 (num (x7.getD 7 undef)), (x7.getD 8 undef)])]) then
 (let x9 := F_law22_same (PK [.int .u16 (num (x7.getD 5 undef)), (x7.getD 6 undef)]) (PK [.int .u16 (num (x7.getD 7 undef)), (x7.getD 8 undef)])
 x9)
 else
 ((tru undef)))
 else
 (false))
 else
 ((tru undef))))
 else
 ((tru undef)))
 else
 ((tru undef)))
 else
 ((tru undef))))
 else
 ((tru undef))))))
 else
 (let x10 := F_r1_Full x0
 bif (!x10) then
 (let x11 := F_law22_awake
 bif (!x11) then
 (false)
 else
 ((tru undef)))
 else
 (let x12 := F_law22_awake
 bif (!x12) then
 (false)
 else
 (bif (pre_law22_FF_7 [p0, p1, .int .u16 x0, .int .i64 0, .int .u16 x0, (LSV 23 1 baseC), .int .u16 x0, (LSV 23 1 baseC)]) then
 (let x13 := LF_law22_FF_7 [p0, p1, .int .u16 x0, .int .i64 0, .int .u16 x0, (LSV 23 1 baseC), .int .u16 x0, (LSV 23 1 baseC)]
 bif (IXT x13 0) then
 ((tru (x13.getD 1 undef)))
 else
 (bif (pre_slices_Clone [(x13.getD 4 undef)]) then
 (bif (RO 112 (CT NILV (x13.getD 6 undef))) then
 (let x14 := F_slices_Clone (x13.getD 4 undef)
 bif (pre_law22_FF_16 [(x13.getD 1 undef), .int .u16 (num (x13.getD 2 undef)), .int .i64 0, .int .u16 (num (x13.getD 3 undef)), (x13.getD 4 undef), .int .u16 (num (x13.getD 5 undef)), (x13.getD 6 undef), .int .u16 (num (x13.getD 3 undef)), x14, .int .u16 (num (x13.getD 5 undef)), (CT NILV (x13.getD 6 undef))]) then
 (let x15 := LF_law22_FF_16 [(x13.getD 1 undef), .int .u16 (num (x13.getD 2 undef)), .int .i64 0, .int .u16 (num (x13.getD 3 undef)), (x13.getD 4 undef), .int .u16 (num (x13.getD 5 undef)), (x13.getD 6 undef), .int .u16 (num (x13.getD 3 undef)), x14, .int .u16 (num (x13.getD 5 undef)), (CT NILV (x13.getD 6 undef))]
 bif (IXT x15 0) then
 ((tru (x15.getD 1 undef)))
 else
 (bif (pre_law22_same [(PK [.int .u16 (num (x15.getD 1 undef)), (x15.getD 2 undef)]), (PK [.int .u16 (num (x15.getD 3 undef)), (x15.getD 4 undef)])]) then
 (let x16 := F_law22_same (PK [.int .u16 (num (x15.getD 1 undef)), (x15.getD 2 undef)]) (PK [.int .u16 (num (x15.getD 3 undef)), (x15.getD 4 undef)])
 bif x16 then
 (bif (pre_law22_same [(PK [.int .u16 (num (x15.getD 5 undef)), (x15.getD 6 undef)]), (PK [.int .u16 (num (x15.getD 7 undef)), (x15.getD 8 undef)])]) then
 (let x17 := F_law22_same (PK [.int .u16 (num (x15.getD 5 undef)), (x15.getD 6 undef)]) (PK [.int .u16 (num (x15.getD 7 undef)), (x15.getD 8 undef)])
 x17)
 else
 ((tru undef)))
 else
 (false))
 else
 ((tru undef))))
 else
 ((tru undef)))
 else
 ((tru undef)))
 else
 ((tru undef))))
 else
 ((tru undef))))) :=
 spellV (L := L_law22_FF) (fun l => tru (l.getD 0 undef)) (evFM ⟨[C_slices_Clone, C_law22_same], [LC_law22_step, LC_law22_FF_7, LC_law22_FF_16]⟩ Tryz.prog [S_gen_Max, S_r1_Full, S_law22_awake] 1000 5 (inL A_law22_FF [p0, p1, .int .i64 p2]) R_law22_FF) (L_law22_FF_is _) (by kernel_rfl)
theorem frameForks {p0 p1 : Value} (k0 : inKind (.l RAW) p0) (k1 : inKind (.l RAW) p1) (p2 : Int) : F_law22_FF p0 p1 p2 = true := by
 rw [F_law22_FF_eq]
 dsimp only
 have hm := gMax_or p2
 generalize F_gen_Max p2 = m at hm ⊢
 obtain ⟨L, hx, g⟩ := fork1_ends k0 p1 hm _ 0 _ (Nat.le_refl _) (Int.le_refl 0) base_good
 obtain ⟨L', hx', g'⟩ := fork2_ends k1 m m L L hm _ 0 _ (Nat.le_refl _) (Int.le_refl 0) g
 have hp := fork1_start p0 p1 hm
 have hp' := fork2_start p1 L L m m hm g
 have hc : pre_slices_Clone [L] = true := g.ok
 have hc' : F_slices_Clone L = L := by rw [clone_eq g.ok, clone_id g]
 have hr : RO 112 L = true := by have := lenOK.clone g.ok; rwa [clone_id g] at this
 have ix : IXT [.int .i64 1, p1, .int .u16 m, .int .u16 m, L, .int .u16 m, L] 0 = false := rfl
 have ix' : IXT [.int .i64 1, .int .u16 m, L, .int .u16 m, L, .int .u16 m, L', .int .u16 m, L'] 0 = false := rfl
 simp only [awake22, full_dec, decide_eq_true hm, hp, hx, hc, hc', hr, ix, hp', hx', ix', clone_id g, List.getD_cons_succ, List.getD_cons_zero, num_int, pre_same g, pre_same g', same_self g hm, same_self g' hm, cond_true, cond_false, Bool.not_true]
 rcases hm with rfl | rfl <;> rfl
end Go.Proofs.YtdioaiepkhepaaaGreatDoor
