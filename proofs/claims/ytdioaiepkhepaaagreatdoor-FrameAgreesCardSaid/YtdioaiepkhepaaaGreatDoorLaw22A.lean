/- FrameAgrees: the law. Printed by a program (gen/Gen2.lean) but for the loops' proofs; what each function does is told by the evaluator, and the kernel checks it. No condition. -/
import Derived.Test.YtdioaiepkhepaaaGreatDoorMzs
import Derived.KernelRfl
import Derived.Shelf.Spec.TrailingZeros
import Derived.Laws.Bits64b
namespace Go.Proofs.YtdioaiepkhepaaaGreatDoor
set_option maxRecDepth 100000
open Go.RowKit
def A_law22_FA : List PS := [.c (.l RAW), .c (.i .i64), .c (.b)]
def R_law22_FA : RS := .one (.c (.b))
def head_law22_FA_7 : Shp := ⟨[.p (.c (.h (.l RAW))), .any, .p (.c (.h (.b))), .any, .any, .any, .any, .p (.c (.h (.i .u16))), .p (.c (.p 0 0)), .any, .p (.c (.p 2 0)), .any, .p (.c (.h (.i .i64))), .any, .any, .any, .any, .any, .any, .any, .any, .any, .any, .any, .any, .any, .any, .any, .any, .any, .any, .any, .any, .any, .any, .any, .any, .any, .any, .any, .any, .any, .any, .any, .any, .any, .any, .any, .any, .any, .any, .any, .any, .any, .any, .any, .any, .any, .any, .any, .any, .any, .any, .any, .any, .any], [(0, ⟨[.h (.i .u16), .ar 1 LV 61], 64, true, none⟩), (1, ⟨[], 61, true, some LV⟩), (2, ⟨[.h (.i .u16), .ar 3 LV 67], 70, true, none⟩), (3, ⟨[], 67, true, some LV⟩)]⟩
def outs_law22_FA_7 : List (Xt × Shp × Nat) := [(.ret, ⟨[.any, .any, .any, .any, .any, .any, .p (.c (.h (.b))), .any, .any, .any, .any, .any, .any, .any, .any, .any, .any, .any, .any, .any, .any, .any, .any, .any, .any, .any, .any, .any, .any, .any, .any, .any, .any, .any, .any, .any, .any, .any, .any, .any, .any, .any, .any, .any, .any, .any, .any, .any, .any, .any, .any, .any, .any, .any, .any, .any, .any, .any, .any, .any, .any, .any, .any, .any, .any, .any], []⟩, 0), (.exit 0, ⟨[.any, .any, .any, .any, .any, .any, .any, .any, .any, .any, .any, .any, .any, .any, .any, .any, .any, .any, .any, .any, .any, .any, .any, .any, .any, .any, .any, .any, .any, .any, .any, .any, .any, .any, .any, .any, .any, .any, .any, .any, .any, .any, .any, .any, .any, .any, .any, .any, .any, .any, .any, .any, .any, .any, .any, .any, .any, .any, .any, .any, .any, .any, .any, .any, .any, .any], []⟩, 0)]
noncomputable def OUT_law22_FA_7 (p0 : Value) (p1 : Bool) (p2 p3 p4 : Int) (p5 : Value) (p6 : Int) (p7 : Value) : List Value :=
 bif (decide (p3 < (LN p0))) then
 (bif (decide (p3 < 24)) then
 (bif (INB p0 p3) then
 (bif (pre_law22_step [.int .i64 (num (CV (IX p0 p3) 0)), .int .i64 (num (CV (IX p0 p3) 1)), .int .i64 (num (CV (IX p0 p3) 2)), .int .i64 (num (CV (IX p0 p3) 3)), .int .i64 (num (CV (IX p0 p3) 4)), .int .i64 (num (CV (IX p0 p3) 5)), .int .i64 (num (CV (IX p0 p3) 6)), .int .i64 (num (CV (IX p0 p3) 7)), .int .i64 (num (CV (IX p0 p3) 8)), .int .i64 (num (CV (IX p0 p3) 9)), .int .i64 (num (CV (IX p0 p3) 10)), .int .i64 (num (CV (IX p0 p3) 11)), .int .i64 (num (CV (IX p0 p3) 12)), .int .i64 (num (CV (IX p0 p3) 13)), .int .i64 (num (CV (IX p0 p3) 14)), .int .i64 (num (CV (IX p0 p3) 15)), .int .i64 (num (CV (IX p0 p3) 16)), .int .i64 (num (CV (IX p0 p3) 17)), .int .u16 (num (CV (IX p0 p3) 18)), .int .u16 (num (CV (IX p0 p3) 19)), .int .u16 (num (CV (IX p0 p3) 20)), .int .u16 (num (CV (IX p0 p3) 21)), .int .u16 (num (CV (IX p0 p3) 22)), .int .u16 p2, .bool p1, .int .u16 p4, p5, .int .u16 p6, p7]) then
 (let x0 := LF_law22_step [.int .i64 (num (CV (IX p0 p3) 0)), .int .i64 (num (CV (IX p0 p3) 1)), .int .i64 (num (CV (IX p0 p3) 2)), .int .i64 (num (CV (IX p0 p3) 3)), .int .i64 (num (CV (IX p0 p3) 4)), .int .i64 (num (CV (IX p0 p3) 5)), .int .i64 (num (CV (IX p0 p3) 6)), .int .i64 (num (CV (IX p0 p3) 7)), .int .i64 (num (CV (IX p0 p3) 8)), .int .i64 (num (CV (IX p0 p3) 9)), .int .i64 (num (CV (IX p0 p3) 10)), .int .i64 (num (CV (IX p0 p3) 11)), .int .i64 (num (CV (IX p0 p3) 12)), .int .i64 (num (CV (IX p0 p3) 13)), .int .i64 (num (CV (IX p0 p3) 14)), .int .i64 (num (CV (IX p0 p3) 15)), .int .i64 (num (CV (IX p0 p3) 16)), .int .i64 (num (CV (IX p0 p3) 17)), .int .u16 (num (CV (IX p0 p3) 18)), .int .u16 (num (CV (IX p0 p3) 19)), .int .u16 (num (CV (IX p0 p3) 20)), .int .u16 (num (CV (IX p0 p3) 21)), .int .u16 (num (CV (IX p0 p3) 22)), .int .u16 p2, .bool p1, .int .u16 p4, p5, .int .u16 p6, p7]
 bif (!(tru (x0.getD 1 undef))) then
 ([.int .i64 0, .bool false])
 else
 (bif (pre_law22_same [(PK [.int .u16 (num (x0.getD 2 undef)), (x0.getD 3 undef)]), (PK [.int .u16 (num (x0.getD 4 undef)), (x0.getD 5 undef)])]) then
 (let x1 := F_law22_same (PK [.int .u16 (num (x0.getD 2 undef)), (x0.getD 3 undef)]) (PK [.int .u16 (num (x0.getD 4 undef)), (x0.getD 5 undef)])
 bif (!x1) then
 ([.int .i64 0, .bool false])
 else
 ([.int .i64 (-1), p0, .bool p1, .int .u16 p2, .int .i64 (IntKind.i64.wrap (p3 + 1)), .int .u16 (num (x0.getD 2 undef)), (x0.getD 3 undef), .int .u16 (num (x0.getD 4 undef)), (x0.getD 5 undef)]))
 else
 ([])))
 else
 ([]))
 else
 ([]))
 else
 ([.int .i64 1]))
 else
 ([.int .i64 1])
noncomputable def OL_law22_FA_7 (xs : List Value) : List Value := OUT_law22_FA_7 (xs.getD 0 undef) (tru (xs.getD 1 undef)) (num (xs.getD 2 undef)) (num (xs.getD 3 undef)) (num (xs.getD 4 undef)) (xs.getD 5 undef) (num (xs.getD 6 undef)) (xs.getD 7 undef)
noncomputable def LF_law22_FA_7 : List Value → List Value := LFof OL_law22_FA_7
noncomputable def pre_law22_FA_7 : List Value → Bool := fun vs => decide (0 ≤ num (vs.getD 3 undef)) && oneB (vs.getD 2 undef) (vs.getD 4 undef) (vs.getD 5 undef) (vs.getD 6 undef) (vs.getD 7 undef)
noncomputable def LC_law22_FA_7 : LoopC := ⟨3, 7, LF_law22_FA_7, pre_law22_FA_7, 4, head_law22_FA_7, outs_law22_FA_7⟩
theorem LF_law22_FA_7_go (p0 : Value) (p1 : Bool) (p2 p3 p4 : Int) (p5 : Value) (p6 : Int) (p7 : Value) : LF_law22_FA_7 [p0, .bool p1, .int .u16 p2, .int .i64 p3, .int .u16 p4, p5, .int .u16 p6, p7] = goOn LF_law22_FA_7 (OUT_law22_FA_7 p0 p1 p2 p3 p4 p5 p6 p7) := LFof_eq _ _
theorem okBL_law22_FA_7 (p0 : Value) (p1 : Bool) (p2 p3 p4 : Int) (p5 : Value) (p6 : Int) (p7 : Value) : (evL ⟨[C_law22_same], [LC_law22_step]⟩ Tryz.prog [S_gen_Max, S_r1_Full, S_law22_awake] 1000 LC_law22_FA_7 [p0, .bool p1, .int .u16 p2, .int .i64 p3, .int .u16 p4, p5, .int .u16 p6, p7]).ok =
 bif (decide (p3 < (LN p0))) then
 (bif (decide (p3 < 24)) then
 (bif (INB p0 p3) then
 (bif (pre_law22_step [.int .i64 (num (CV (IX p0 p3) 0)), .int .i64 (num (CV (IX p0 p3) 1)), .int .i64 (num (CV (IX p0 p3) 2)), .int .i64 (num (CV (IX p0 p3) 3)), .int .i64 (num (CV (IX p0 p3) 4)), .int .i64 (num (CV (IX p0 p3) 5)), .int .i64 (num (CV (IX p0 p3) 6)), .int .i64 (num (CV (IX p0 p3) 7)), .int .i64 (num (CV (IX p0 p3) 8)), .int .i64 (num (CV (IX p0 p3) 9)), .int .i64 (num (CV (IX p0 p3) 10)), .int .i64 (num (CV (IX p0 p3) 11)), .int .i64 (num (CV (IX p0 p3) 12)), .int .i64 (num (CV (IX p0 p3) 13)), .int .i64 (num (CV (IX p0 p3) 14)), .int .i64 (num (CV (IX p0 p3) 15)), .int .i64 (num (CV (IX p0 p3) 16)), .int .i64 (num (CV (IX p0 p3) 17)), .int .u16 (num (CV (IX p0 p3) 18)), .int .u16 (num (CV (IX p0 p3) 19)), .int .u16 (num (CV (IX p0 p3) 20)), .int .u16 (num (CV (IX p0 p3) 21)), .int .u16 (num (CV (IX p0 p3) 22)), .int .u16 p2, .bool p1, .int .u16 p4, p5, .int .u16 p6, p7]) then
 (let x0 := LF_law22_step [.int .i64 (num (CV (IX p0 p3) 0)), .int .i64 (num (CV (IX p0 p3) 1)), .int .i64 (num (CV (IX p0 p3) 2)), .int .i64 (num (CV (IX p0 p3) 3)), .int .i64 (num (CV (IX p0 p3) 4)), .int .i64 (num (CV (IX p0 p3) 5)), .int .i64 (num (CV (IX p0 p3) 6)), .int .i64 (num (CV (IX p0 p3) 7)), .int .i64 (num (CV (IX p0 p3) 8)), .int .i64 (num (CV (IX p0 p3) 9)), .int .i64 (num (CV (IX p0 p3) 10)), .int .i64 (num (CV (IX p0 p3) 11)), .int .i64 (num (CV (IX p0 p3) 12)), .int .i64 (num (CV (IX p0 p3) 13)), .int .i64 (num (CV (IX p0 p3) 14)), .int .i64 (num (CV (IX p0 p3) 15)), .int .i64 (num (CV (IX p0 p3) 16)), .int .i64 (num (CV (IX p0 p3) 17)), .int .u16 (num (CV (IX p0 p3) 18)), .int .u16 (num (CV (IX p0 p3) 19)), .int .u16 (num (CV (IX p0 p3) 20)), .int .u16 (num (CV (IX p0 p3) 21)), .int .u16 (num (CV (IX p0 p3) 22)), .int .u16 p2, .bool p1, .int .u16 p4, p5, .int .u16 p6, p7]
 bif (!(tru (x0.getD 1 undef))) then
 (true)
 else
 (bif (pre_law22_same [(PK [.int .u16 (num (x0.getD 2 undef)), (x0.getD 3 undef)]), (PK [.int .u16 (num (x0.getD 4 undef)), (x0.getD 5 undef)])]) then
 (true)
 else
 (false)))
 else
 (false))
 else
 (false))
 else
 (true))
 else
 (true) := (okR_eq _).trans (by kernel_rfl)
theorem step_law22_FA_7 (p0 : Value) (p1 : Bool) (p2 p3 p4 : Int) (p5 : Value) (p6 : Int) (p7 : Value) : (evL ⟨[C_law22_same], [LC_law22_step]⟩ Tryz.prog [S_gen_Max, S_r1_Full, S_law22_awake] 1000 LC_law22_FA_7 [p0, .bool p1, .int .u16 p2, .int .i64 p3, .int .u16 p4, p5, .int .u16 p6, p7]).outL = OUT_law22_FA_7 p0 p1 p2 p3 p4 p5 p6 p7 := (fold_eq (fun l => l) _).trans (by kernel_rfl)
theorem one_law22_FA_7 : (loopsBy Tryz.prog 3 7).length = 1 := by kernel_rfl
theorem env_law22_FA_7 : EnvOK Tryz.prog InvN ⟨[C_law22_same], [LC_law22_step]⟩ ∧ AllOK Tryz.prog InvN [S_gen_Max, S_r1_Full, S_law22_awake] := ⟨⟨(allC_cons ok_law22_same allC_nil), (allL_cons ok_law22_step allL_nil)⟩, (allOK_cons ok_gen_Max.any (allOK_cons ok_r1_Full.any (allOK_cons ok_law22_awake allOK_nil)))⟩
theorem lp_law22_FA_7 (meas : List Value → Nat) (h : ∀ p0 p1 p2 p3 p4 p5 p6 p7, inKind (.l RAW) p0 → IntKind.u16.min ≤ p2 → p2 ≤ IntKind.u16.max → IntKind.i64.min ≤ p3 → p3 ≤ IntKind.i64.max → IntKind.u16.min ≤ p4 → p4 ≤ IntKind.u16.max → inKind (.l LV) p5 → IntKind.u16.min ≤ p6 → p6 ≤ IntKind.u16.max → inKind (.l LV) p7 → pre_law22_FA_7 [p0, .bool p1, .int .u16 p2, .int .i64 p3, .int .u16 p4, p5, .int .u16 p6, p7] = true → (evL ⟨[C_law22_same], [LC_law22_step]⟩ Tryz.prog [S_gen_Max, S_r1_Full, S_law22_awake] 1000 LC_law22_FA_7 [p0, .bool p1, .int .u16 p2, .int .i64 p3, .int .u16 p4, p5, .int .u16 p6, p7]).ok = true ∧ okO pre_law22_FA_7 meas (meas [p0, .bool p1, .int .u16 p2, .int .i64 p3, .int .u16 p4, p5, .int .u16 p6, p7]) (OUT_law22_FA_7 p0 p1 p2 p3 p4 p5 p6 p7)) : LoopTrue Tryz.prog InvN LC_law22_FA_7 := loop_lf env_law22_FA_7 1000 LC_law22_FA_7 one_law22_FA_7 meas OL_law22_FA_7 rfl (by
 refine kLc fun p0 p0k => ?_
 refine kLb fun p1 => ?_
 refine kLi fun p2 p2lo p2hi => ?_
 refine kLi fun p3 p3lo p3hi => ?_
 refine kLi fun p4 p4lo p4hi => ?_
 refine kLc fun p5 p5k => ?_
 refine kLi fun p6 p6lo p6hi => ?_
 refine kLc fun p7 p7k => ?_
 refine kLn ?_
 intro hp
 have h := h p0 p1 p2 p3 p4 p5 p6 p7 p0k p2lo p2hi p3lo p3hi p4lo p4hi p5k p6lo p6hi p7k hp
 exact ⟨h.1, step_law22_FA_7 p0 p1 p2 p3 p4 p5 p6 p7, h.2⟩)
theorem ok_law22_FA_7 : LoopTrue Tryz.prog InvN LC_law22_FA_7 := lp_law22_FA_7 (fun xs => (24 - num (xs.getD 3 undef)).toNat) (by
 intro p0 p1 p2 p3 p4 p5 p6 p7 hk _ _ _ _ _ _ _ _ _ _ hp
 have hp : (decide (0 ≤ p3) && oneB (.int .u16 p2) (.int .u16 p4) p5 (.int .u16 p6) p7) = true := hp
 simp only [Bool.and_eq_true, decide_eq_true_eq, oneB_iff] at hp
 obtain ⟨h0, m, hm, e1, e2, e3, rfl, g⟩ := hp
 cases e1; cases e2; cases e3
 rw [okBL_law22_FA_7]
 refine ⟨bif_ok (fun h1 => bif_ok (fun h2 => bif_ok (fun _ => ?_) (fun h => bool_no (INB_of h0 (of_decide_eq_true h1)) h)) (fun _ => rfl)) (fun _ => rfl), ?_⟩
 ·obtain ⟨L', hx, gl⟩ := stepRaw (e := IX p0 p3) (fr := p1) g hm (raw_at hk h0 (of_decide_eq_true h1))
  simp only [pre_step g, hx, List.getD_cons_succ, List.getD_cons_zero, num_int, pre_same gl, tru, Bool.not_true, cond_true, Bool.cond_self]
 ·unfold OUT_law22_FA_7
  refine okO_bif (fun h1 => okO_bif (fun h2 => ?_) (fun _ => okO_exit 1)) (fun _ => okO_exit 1)
  have h2 : p3 < 24 := of_decide_eq_true h2
  obtain ⟨L', hx, gl⟩ := stepRaw (e := IX p0 p3) (fr := p1) g hm (raw_at hk h0 (of_decide_eq_true h1))
  simp only [INB_of h0 (of_decide_eq_true h1), pre_step g, hx, List.getD_cons_succ, List.getD_cons_zero, num_int, pre_same gl, same_self gl hm, tru, Bool.not_true, cond_true, cond_false]
  refine okO_next ?_ ?_
  ·show (decide (0 ≤ IntKind.i64.wrap (p3 + 1)) && oneB (.int .u16 p2) (.int .u16 p2) L' (.int .u16 p2) L') = true
   rw [i64_in (by omega) (by omega), oneB_of hm gl, decide_eq_true (by omega)]
   rfl
  ·show (24 - IntKind.i64.wrap (p3 + 1)).toNat < _
   rw [i64_in (by omega) (by omega)]
   omega)
theorem agrees_ends {p0 : Value} (hk : inKind (.l RAW) p0) (p1 : Bool) {m : Int} (hm : m = 255 ∨ m = 65535) : ∀ (N : Nat) (i : Int) (L : Value), (24 - i).toNat ≤ N → 0 ≤ i → Good L → ∃ L', LF_law22_FA_7 [p0, .bool p1, .int .u16 m, .int .i64 i, .int .u16 m, L, .int .u16 m, L] = [.int .i64 1] ∧ Good L'
 | N, i, L, hN, h0, g => by
  rw [LF_law22_FA_7_go]
  unfold OUT_law22_FA_7
  by_cases h1 : i < LN p0
  ·rw [decide_eq_true h1, cond_true]
   by_cases h2 : i < 24
   ·rw [decide_eq_true h2, cond_true]
    obtain ⟨L', hx, gl⟩ := stepRaw (e := IX p0 i) (fr := p1) g hm (raw_at hk h0 h1)
    simp only [INB_of h0 h1, pre_step g, hx, List.getD_cons_succ, List.getD_cons_zero, num_int, pre_same gl, same_self gl hm, tru, Bool.not_true, cond_true, cond_false, goOn_next]
    rw [i64_in (by omega) (by omega)]
    match N, hN with
    | 0, hN => exact absurd hN (by omega)
    | N + 1, hN => exact agrees_ends hk p1 hm N (i + 1) L' (by omega) (by omega) gl
   ·rw [decide_eq_false h2]
    exact ⟨L, rfl, g⟩
  ·rw [decide_eq_false h1]
   exact ⟨L, rfl, g⟩
noncomputable def L_law22_FA : List Value → List Value := Classical.choose (veil fun vs => (evFM ⟨[C_law22_same], [LC_law22_step, LC_law22_FA_7]⟩ Tryz.prog [S_gen_Max, S_r1_Full, S_law22_awake] 1000 3 (inL A_law22_FA vs) R_law22_FA).outL)
theorem L_law22_FA_is (vs : List Value) : L_law22_FA vs = (evFM ⟨[C_law22_same], [LC_law22_step, LC_law22_FA_7]⟩ Tryz.prog [S_gen_Max, S_r1_Full, S_law22_awake] 1000 3 (inL A_law22_FA vs) R_law22_FA).outL := Classical.choose_spec (veil _) vs
noncomputable def S_law22_FA : Sum := ⟨3, L_law22_FA, A_law22_FA, R_law22_FA⟩
theorem env_law22_FA : EnvOK Tryz.prog InvN ⟨[C_law22_same], [LC_law22_step, LC_law22_FA_7]⟩ ∧ AllOK Tryz.prog InvN [S_gen_Max, S_r1_Full, S_law22_awake] := ⟨⟨(allC_cons ok_law22_same allC_nil), (allL_cons ok_law22_step (allL_cons ok_law22_FA_7 allL_nil))⟩, (allOK_cons ok_gen_Max.any (allOK_cons ok_r1_Full.any (allOK_cons ok_law22_awake allOK_nil)))⟩
theorem okG_law22_FA (vs : List Value) : (evFM ⟨[C_law22_same], [LC_law22_step, LC_law22_FA_7]⟩ Tryz.prog [S_gen_Max, S_r1_Full, S_law22_awake] 1000 3 (inL A_law22_FA vs) R_law22_FA).goodX R_law22_FA = true := by kernel_rfl
theorem okB_law22_FA (p0 : Value) (p1 : Int) (p2 : Bool) : (evFM ⟨[C_law22_same], [LC_law22_step, LC_law22_FA_7]⟩ Tryz.prog [S_gen_Max, S_r1_Full, S_law22_awake] 1000 3 (inL A_law22_FA [p0, .int .i64 p1, .bool p2]) R_law22_FA).ok =
 let x0 := F_gen_Max p1
 bif (x0 != 255) then
 (bif (x0 != 65535) then
 (true)
 else
 (let x1 := F_r1_Full x0
 bif (!x1) then
 (true)
 else
 (let x2 := F_law22_awake
 bif (!x2) then
 (true)
 else
 (bif (pre_law22_FA_7 [p0, .bool p2, .int .u16 x0, .int .i64 0, .int .u16 x0, (LSV 23 1 baseC), .int .u16 x0, (LSV 23 1 baseC)]) then
 (true)
 else
 (false)))))
 else
 (let x3 := F_r1_Full x0
 bif (!x3) then
 (true)
 else
 (let x4 := F_law22_awake
 bif (!x4) then
 (true)
 else
 (bif (pre_law22_FA_7 [p0, .bool p2, .int .u16 x0, .int .i64 0, .int .u16 x0, (LSV 23 1 baseC), .int .u16 x0, (LSV 23 1 baseC)]) then
 (true)
 else
 (false)))) := (okR_eq _).trans (by kernel_rfl)
theorem okA_law22_FA (h : ∀ p0 p1 p2 , inKind (.l RAW) p0 → IntKind.i64.min ≤ p1 → p1 ≤ IntKind.i64.max → (evFM ⟨[C_law22_same], [LC_law22_step, LC_law22_FA_7]⟩ Tryz.prog [S_gen_Max, S_r1_Full, S_law22_awake] 1000 3 (inL A_law22_FA [p0, .int .i64 p1, .bool p2]) R_law22_FA).ok = true) : SumOK Tryz.prog InvN S_law22_FA := sumOK_partL invN_stays env_law22_FA.1 env_law22_FA.2 1000 3 A_law22_FA R_law22_FA L_law22_FA_is okG_law22_FA (by
 refine kLc fun p0 p0k => ?_
 refine kLi fun p1 p1lo p1hi => ?_
 refine kLb fun p2 => ?_
 refine kLn ?_
 exact h p0 p1 p2 p0k p1lo p1hi)
theorem agrees_start (p0 : Value) (p2 : Bool) {m : Int} (hm : m = 255 ∨ m = 65535) : pre_law22_FA_7 [p0, .bool p2, .int .u16 m, .int .i64 0, .int .u16 m, LSV 23 1 baseC, .int .u16 m, LSV 23 1 baseC] = true := by
 show (decide ((0 : Int) ≤ 0) && oneB (.int .u16 m) (.int .u16 m) (LSV 23 1 baseC) (.int .u16 m) (LSV 23 1 baseC)) = true
 rw [oneB_of hm base_good]
 rfl
theorem max_or (p1 : Int) : F_gen_Max p1 = 255 ∨ F_gen_Max p1 = 65535 := gMax_or p1
theorem ok_law22_FA : SumOK Tryz.prog InvN S_law22_FA := okA_law22_FA (by
 intro p0 p1 p2 hk _ _
 have hp := agrees_start p0 p2 (max_or p1)
 rw [okB_law22_FA]
 dsimp only
 rw [hp]
 repeat' (first | with_reducible rfl | refine bif_ok (fun h => ?_) (fun h => ?_))
 all_goals exact bool_no (c := true) rfl h)
noncomputable def F_law22_FA (p0 : Value) (p1 : Int) (p2 : Bool) : Bool := (fun l => tru (l.getD 0 undef)) (L_law22_FA [p0, .int .i64 p1, .bool p2])
theorem F_law22_FA_eq (p0 : Value) (p1 : Int) (p2 : Bool) : F_law22_FA p0 p1 p2 =
 let x0 := F_gen_Max p1
 bif (x0 != 255) then
 (bif (x0 != 65535) then
 (let x1 := F_r1_Full x0
 bif (!x1) then
 (false)
 else
 (false))
 else
 (let x2 := F_r1_Full x0
 bif (!x2) then
 (false)
 else
 (let x3 := F_law22_awake
 bif (!x3) then
 (false)
 else
 (bif (pre_law22_FA_7 [p0, .bool p2, .int .u16 x0, .int .i64 0, .int .u16 x0, (LSV 23 1 baseC), .int .u16 x0, (LSV 23 1 baseC)]) then
 (let x4 := LF_law22_FA_7 [p0, .bool p2, .int .u16 x0, .int .i64 0, .int .u16 x0, (LSV 23 1 baseC), .int .u16 x0, (LSV 23 1 baseC)]
 bif (IXT x4 0) then
 ((tru (x4.getD 1 undef)))
 else
 (true))
 else
 ((tru undef))))))
 else
 (let x5 := F_r1_Full x0
 bif (!x5) then
 (false)
 else
 (let x6 := F_law22_awake
 bif (!x6) then
 (false)
 else
 (bif (pre_law22_FA_7 [p0, .bool p2, .int .u16 x0, .int .i64 0, .int .u16 x0, (LSV 23 1 baseC), .int .u16 x0, (LSV 23 1 baseC)]) then
 (let x7 := LF_law22_FA_7 [p0, .bool p2, .int .u16 x0, .int .i64 0, .int .u16 x0, (LSV 23 1 baseC), .int .u16 x0, (LSV 23 1 baseC)]
 bif (IXT x7 0) then
 ((tru (x7.getD 1 undef)))
 else
 (true))
 else
 ((tru undef))))) :=
 spellV (L := L_law22_FA) (fun l => tru (l.getD 0 undef)) (evFM ⟨[C_law22_same], [LC_law22_step, LC_law22_FA_7]⟩ Tryz.prog [S_gen_Max, S_r1_Full, S_law22_awake] 1000 3 (inL A_law22_FA [p0, .int .i64 p1, .bool p2]) R_law22_FA) (L_law22_FA_is _) (by kernel_rfl)
theorem frameAgrees (p0 : Value) (p1 : Int) (p2 : Bool) (hk : inKind (.l RAW) p0) : F_law22_FA p0 p1 p2 = true := by
 rw [F_law22_FA_eq]
 dsimp only
 have hm := max_or p1
 generalize F_gen_Max p1 = m at hm ⊢
 have hp := agrees_start p0 p2 hm
 obtain ⟨_, hx, _⟩ := agrees_ends hk p2 hm _ 0 _ (Nat.le_refl _) (Int.le_refl 0) base_good
 rw [hp, hx, awake22, full_dec, decide_eq_true hm]
 rcases hm with rfl | rfl <;> rfl
end Go.Proofs.YtdioaiepkhepaaaGreatDoor
