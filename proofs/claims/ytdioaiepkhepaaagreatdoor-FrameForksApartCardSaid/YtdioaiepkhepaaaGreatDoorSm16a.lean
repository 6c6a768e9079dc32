/- Chapter 16's scaling: a pixel scaled by a sample. Printed by a program (gen/Gen2.lean) but for the loops' proofs; what each function does is told by the evaluator, and the kernel checks it. No condition. -/
import Derived.Test.YtdioaiepkhepaaaGreatDoorSm12
import Derived.Test.YtdioaiepkhepaaaGreatDoorLst
import Derived.KernelRfl
import Derived.Shelf.Spec.TrailingZeros
import Derived.Laws.Bits64b
namespace Go.Proofs.YtdioaiepkhepaaaGreatDoor
set_option maxRecDepth 100000
open Go.RowKit
def A_round_By255 : List PS := [.c (.i .u32)]
def R_round_By255 : RS := .one (.c (.i .u32))
def head_round_By255_2 : Shp := ⟨[.p (.c (.h (.i .u32))), .any, .any, .p (.c (.h (.i .u32))), .any, .any, .any, .any, .any, .any, .any, .any, .any, .any, .any, .any, .any, .any, .any, .any], []⟩
def outs_round_By255_2 : List (Xt × Shp × Nat) := [(.exit 0, ⟨[.p (.c (.h (.i .u32))), .any, .any, .p (.c (.h (.i .u32))), .any, .any, .any, .any, .any, .any, .any, .any, .any, .any, .any, .any, .any, .any, .any, .any], []⟩, 0)]
noncomputable def OUT_round_By255_2 (p0 p1 : Int) : List Value :=
 bif (decide (p0 > 255)) then
 ([.int .i64 (-1), .int .u32 (IntKind.u32.wrap ((Int.fdiv p0 (2 ^ 8)) + (bits .and .u32 p0 255))), .int .u32 (IntKind.u32.wrap (p1 + (Int.fdiv p0 (2 ^ 8))))])
 else
 ([.int .i64 0, .int .u32 p0, .int .u32 p1])
noncomputable def OL_round_By255_2 (xs : List Value) : List Value := OUT_round_By255_2 (num (xs.getD 0 undef)) (num (xs.getD 1 undef))
noncomputable def LF_round_By255_2 : List Value → List Value := LFof OL_round_By255_2
def pre_round_By255_2 : List Value → Bool := fun _ => true
noncomputable def LC_round_By255_2 : LoopC := ⟨55, 2, LF_round_By255_2, pre_round_By255_2, 0, head_round_By255_2, outs_round_By255_2⟩
theorem LF_round_By255_2_go (p0 p1 : Int) : LF_round_By255_2 [.int .u32 p0, .int .u32 p1] = goOn LF_round_By255_2 (OUT_round_By255_2 p0 p1) := LFof_eq _ _
theorem okBL_round_By255_2 (p0 p1 : Int) : (evL ⟨[], []⟩ Tryz.prog [] 1000 LC_round_By255_2 [.int .u32 p0, .int .u32 p1]).ok =
 true := (okR_eq _).trans (by kernel_rfl)
theorem step_round_By255_2 (p0 p1 : Int) : (evL ⟨[], []⟩ Tryz.prog [] 1000 LC_round_By255_2 [.int .u32 p0, .int .u32 p1]).outL = OUT_round_By255_2 p0 p1 := (fold_eq (fun l => l) _).trans (by kernel_rfl)
theorem one_round_By255_2 : (loopsBy Tryz.prog 55 2).length = 1 := by kernel_rfl
theorem env_round_By255_2 : EnvOK Tryz.prog InvN ⟨[], []⟩ ∧ AllOK Tryz.prog InvN [] := ⟨⟨allC_nil, allL_nil⟩, allOK_nil⟩
theorem lp_round_By255_2 (meas : List Value → Nat) (h : ∀ p0 p1, IntKind.u32.min ≤ p0 → p0 ≤ IntKind.u32.max → IntKind.u32.min ≤ p1 → p1 ≤ IntKind.u32.max → pre_round_By255_2 [.int .u32 p0, .int .u32 p1] = true → (evL ⟨[], []⟩ Tryz.prog [] 1000 LC_round_By255_2 [.int .u32 p0, .int .u32 p1]).ok = true ∧ okO pre_round_By255_2 meas (meas [.int .u32 p0, .int .u32 p1]) (OUT_round_By255_2 p0 p1)) : LoopTrue Tryz.prog InvN LC_round_By255_2 := loop_lf env_round_By255_2 1000 LC_round_By255_2 one_round_By255_2 meas OL_round_By255_2 rfl (by
 refine kLi fun p0 p0lo p0hi => ?_
 refine kLi fun p1 p1lo p1hi => ?_
 refine kLn ?_
 intro hp
 have h := h p0 p1 p0lo p0hi p1lo p1hi hp
 exact ⟨h.1, step_round_By255_2 p0 p1, h.2⟩)
theorem ok_round_By255_2 : LoopTrue Tryz.prog InvN LC_round_By255_2 := lp_round_By255_2 (fun xs => (num (xs.getD 0 undef)).toNat) fun p0 p1 p0lo p0hi _ _ _ => by
 rw [okBL_round_By255_2]
 refine ⟨rfl, ?_⟩
 unfold OUT_round_By255_2
 refine okO_bif (fun h => okO_next rfl ?_) (fun _ => okO_exit 0)
 have h : p0 > 255 := of_decide_eq_true h
 have hh : p0 < 4294967296 := Int.lt_add_one_of_le p0hi
 have hl : 0 ≤ p0 := p0lo
 show (IntKind.u32.wrap (Int.fdiv p0 (2 ^ 8) + bits .and .u32 p0 255)).toNat < p0.toNat
 have e : bits .and .u32 p0 255 = p0 % 256 := by
  obtain ⟨a, rfl⟩ := Int.eq_ofNat_of_zero_le hl
  have h := bits_and_u32_nat a 255 (by omega) (by omega)
  have e : a &&& 255 = a % 256 := Nat.and_two_pow_sub_one_eq_mod a 8
  rw [e] at h
  exact h.trans (by omega)
 rw [e, show (2 : Int) ^ 8 = 256 from rfl, Int.fdiv_eq_ediv_of_nonneg _ (by decide), IntKind.wrap_u32]
 rw [Int.emod_eq_of_lt (show 0 ≤ p0 / 256 + p0 % 256 by omega) (show p0 / 256 + p0 % 256 < 4294967296 by omega)]
 omega
noncomputable def L_round_By255 : List Value → List Value := Classical.choose (veil fun vs => (evFM ⟨[], [LC_round_By255_2]⟩ Tryz.prog [] 1000 55 (inL A_round_By255 vs) R_round_By255).outL)
theorem L_round_By255_is (vs : List Value) : L_round_By255 vs = (evFM ⟨[], [LC_round_By255_2]⟩ Tryz.prog [] 1000 55 (inL A_round_By255 vs) R_round_By255).outL := Classical.choose_spec (veil _) vs
noncomputable def S_round_By255 : Sum := ⟨55, L_round_By255, A_round_By255, R_round_By255⟩
theorem env_round_By255 : EnvOK Tryz.prog InvN ⟨[], [LC_round_By255_2]⟩ ∧ AllOK Tryz.prog InvN [] := ⟨⟨allC_nil, (allL_cons ok_round_By255_2 allL_nil)⟩, allOK_nil⟩
theorem okG_round_By255 (vs : List Value) : (evFM ⟨[], [LC_round_By255_2]⟩ Tryz.prog [] 1000 55 (inL A_round_By255 vs) R_round_By255).goodX R_round_By255 = true := by kernel_rfl
theorem okB_round_By255 (p0 : Int) : (evFM ⟨[], [LC_round_By255_2]⟩ Tryz.prog [] 1000 55 (inL A_round_By255 [.int .u32 p0]) R_round_By255).ok =
 bif (pre_round_By255_2 [.int .u32 p0, .int .u32 0]) then
 (true)
 else
 (false) := (okR_eq _).trans (by kernel_rfl)
theorem okA_round_By255 (h : ∀ p0 , IntKind.u32.min ≤ p0 → p0 ≤ IntKind.u32.max → (evFM ⟨[], [LC_round_By255_2]⟩ Tryz.prog [] 1000 55 (inL A_round_By255 [.int .u32 p0]) R_round_By255).ok = true) : SumOK Tryz.prog InvN S_round_By255 := sumOK_partL invN_stays env_round_By255.1 env_round_By255.2 1000 55 A_round_By255 R_round_By255 L_round_By255_is okG_round_By255 (fun vs hk => by
 obtain ⟨_, _, rfl, ⟨p0, rfl, p0lo, p0hi⟩, rfl⟩ := hk
 exact h p0 p0lo p0hi)
theorem ok_round_By255 : SumOK Tryz.prog InvN S_round_By255 := okA_round_By255 fun p0 _ _ => by rw [okB_round_By255]; rfl
noncomputable def F_round_By255 (p0 : Int) : Int := (fun l => num (l.getD 0 undef)) (L_round_By255 [.int .u32 p0])
theorem F_round_By255_eq (p0 : Int) : F_round_By255 p0 =
 bif (pre_round_By255_2 [.int .u32 p0, .int .u32 0]) then
 (let x0 := LF_round_By255_2 [.int .u32 p0, .int .u32 0]
 bif (decide ((num (x0.getD 1 undef)) ≥ 128)) then
 ((IntKind.u32.wrap ((num (x0.getD 2 undef)) + 1)))
 else
 ((num (x0.getD 2 undef))))
 else
 ((num undef)) :=
 spellV (L := L_round_By255) (fun l => num (l.getD 0 undef)) (evFM ⟨[], [LC_round_By255_2]⟩ Tryz.prog [] 1000 55 (inL A_round_By255 [.int .u32 p0]) R_round_By255) (L_round_By255_is _) (by kernel_rfl)
def A_round_By65535 : List PS := [.c (.i .u64)]
def R_round_By65535 : RS := .one (.c (.i .u64))
def head_round_By65535_2 : Shp := ⟨[.p (.c (.h (.i .u64))), .any, .any, .p (.c (.h (.i .u64))), .any, .any, .any, .any, .any, .any, .any, .any, .any, .any, .any, .any, .any, .any, .any, .any], []⟩
def outs_round_By65535_2 : List (Xt × Shp × Nat) := [(.exit 0, ⟨[.p (.c (.h (.i .u64))), .any, .any, .p (.c (.h (.i .u64))), .any, .any, .any, .any, .any, .any, .any, .any, .any, .any, .any, .any, .any, .any, .any, .any], []⟩, 0)]
noncomputable def OUT_round_By65535_2 (p0 p1 : Int) : List Value :=
 bif (decide (p0 > 65535)) then
 ([.int .i64 (-1), .int .u64 (IntKind.u64.wrap ((Int.fdiv p0 (2 ^ 16)) + (bits .and .u64 p0 65535))), .int .u64 (IntKind.u64.wrap (p1 + (Int.fdiv p0 (2 ^ 16))))])
 else
 ([.int .i64 0, .int .u64 p0, .int .u64 p1])
noncomputable def OL_round_By65535_2 (xs : List Value) : List Value := OUT_round_By65535_2 (num (xs.getD 0 undef)) (num (xs.getD 1 undef))
noncomputable def LF_round_By65535_2 : List Value → List Value := LFof OL_round_By65535_2
def pre_round_By65535_2 : List Value → Bool := fun _ => true
noncomputable def LC_round_By65535_2 : LoopC := ⟨56, 2, LF_round_By65535_2, pre_round_By65535_2, 0, head_round_By65535_2, outs_round_By65535_2⟩
theorem LF_round_By65535_2_go (p0 p1 : Int) : LF_round_By65535_2 [.int .u64 p0, .int .u64 p1] = goOn LF_round_By65535_2 (OUT_round_By65535_2 p0 p1) := LFof_eq _ _
theorem okBL_round_By65535_2 (p0 p1 : Int) : (evL ⟨[], []⟩ Tryz.prog [] 1000 LC_round_By65535_2 [.int .u64 p0, .int .u64 p1]).ok =
 true := (okR_eq _).trans (by kernel_rfl)
theorem step_round_By65535_2 (p0 p1 : Int) : (evL ⟨[], []⟩ Tryz.prog [] 1000 LC_round_By65535_2 [.int .u64 p0, .int .u64 p1]).outL = OUT_round_By65535_2 p0 p1 := (fold_eq (fun l => l) _).trans (by kernel_rfl)
theorem one_round_By65535_2 : (loopsBy Tryz.prog 56 2).length = 1 := by kernel_rfl
theorem env_round_By65535_2 : EnvOK Tryz.prog InvN ⟨[], []⟩ ∧ AllOK Tryz.prog InvN [] := ⟨⟨allC_nil, allL_nil⟩, allOK_nil⟩
theorem lp_round_By65535_2 (meas : List Value → Nat) (h : ∀ p0 p1, IntKind.u64.min ≤ p0 → p0 ≤ IntKind.u64.max → IntKind.u64.min ≤ p1 → p1 ≤ IntKind.u64.max → pre_round_By65535_2 [.int .u64 p0, .int .u64 p1] = true → (evL ⟨[], []⟩ Tryz.prog [] 1000 LC_round_By65535_2 [.int .u64 p0, .int .u64 p1]).ok = true ∧ okO pre_round_By65535_2 meas (meas [.int .u64 p0, .int .u64 p1]) (OUT_round_By65535_2 p0 p1)) : LoopTrue Tryz.prog InvN LC_round_By65535_2 := loop_lf env_round_By65535_2 1000 LC_round_By65535_2 one_round_By65535_2 meas OL_round_By65535_2 rfl (by
 refine kLi fun p0 p0lo p0hi => ?_
 refine kLi fun p1 p1lo p1hi => ?_
 refine kLn ?_
 intro hp
 have h := h p0 p1 p0lo p0hi p1lo p1hi hp
 exact ⟨h.1, step_round_By65535_2 p0 p1, h.2⟩)
theorem ok_round_By65535_2 : LoopTrue Tryz.prog InvN LC_round_By65535_2 := lp_round_By65535_2 (fun xs => (num (xs.getD 0 undef)).toNat) fun p0 p1 p0lo p0hi _ _ _ => by
 rw [okBL_round_By65535_2]
 refine ⟨rfl, ?_⟩
 unfold OUT_round_By65535_2
 refine okO_bif (fun h => okO_next rfl ?_) (fun _ => okO_exit 0)
 have h : p0 > 65535 := of_decide_eq_true h
 have hh : p0 < 18446744073709551616 := Int.lt_add_one_of_le p0hi
 have hl : 0 ≤ p0 := p0lo
 show (IntKind.u64.wrap (Int.fdiv p0 (2 ^ 16) + bits .and .u64 p0 65535)).toNat < p0.toNat
 have e : bits .and .u64 p0 65535 = p0 % 65536 := by
  obtain ⟨a, rfl⟩ := Int.eq_ofNat_of_zero_le hl
  have h := bits_and_u64_nat a 65535 (by omega) (by omega)
  have e : a &&& 65535 = a % 65536 := Nat.and_two_pow_sub_one_eq_mod a 16
  rw [e] at h
  exact h.trans (by omega)
 rw [e, show (2 : Int) ^ 16 = 65536 from rfl, Int.fdiv_eq_ediv_of_nonneg _ (by decide), IntKind.wrap_u64]
 rw [Int.emod_eq_of_lt (show 0 ≤ p0 / 65536 + p0 % 65536 by omega) (show p0 / 65536 + p0 % 65536 < 18446744073709551616 by omega)]
 omega
noncomputable def L_round_By65535 : List Value → List Value := Classical.choose (veil fun vs => (evFM ⟨[], [LC_round_By65535_2]⟩ Tryz.prog [] 1000 56 (inL A_round_By65535 vs) R_round_By65535).outL)
theorem L_round_By65535_is (vs : List Value) : L_round_By65535 vs = (evFM ⟨[], [LC_round_By65535_2]⟩ Tryz.prog [] 1000 56 (inL A_round_By65535 vs) R_round_By65535).outL := Classical.choose_spec (veil _) vs
noncomputable def S_round_By65535 : Sum := ⟨56, L_round_By65535, A_round_By65535, R_round_By65535⟩
theorem env_round_By65535 : EnvOK Tryz.prog InvN ⟨[], [LC_round_By65535_2]⟩ ∧ AllOK Tryz.prog InvN [] := ⟨⟨allC_nil, (allL_cons ok_round_By65535_2 allL_nil)⟩, allOK_nil⟩
theorem okG_round_By65535 (vs : List Value) : (evFM ⟨[], [LC_round_By65535_2]⟩ Tryz.prog [] 1000 56 (inL A_round_By65535 vs) R_round_By65535).goodX R_round_By65535 = true := by kernel_rfl
theorem okB_round_By65535 (p0 : Int) : (evFM ⟨[], [LC_round_By65535_2]⟩ Tryz.prog [] 1000 56 (inL A_round_By65535 [.int .u64 p0]) R_round_By65535).ok =
 bif (pre_round_By65535_2 [.int .u64 p0, .int .u64 0]) then
 (true)
 else
 (false) := (okR_eq _).trans (by kernel_rfl)
theorem okA_round_By65535 (h : ∀ p0 , IntKind.u64.min ≤ p0 → p0 ≤ IntKind.u64.max → (evFM ⟨[], [LC_round_By65535_2]⟩ Tryz.prog [] 1000 56 (inL A_round_By65535 [.int .u64 p0]) R_round_By65535).ok = true) : SumOK Tryz.prog InvN S_round_By65535 := sumOK_partL invN_stays env_round_By65535.1 env_round_By65535.2 1000 56 A_round_By65535 R_round_By65535 L_round_By65535_is okG_round_By65535 (fun vs hk => by
 obtain ⟨_, _, rfl, ⟨p0, rfl, p0lo, p0hi⟩, rfl⟩ := hk
 exact h p0 p0lo p0hi)
theorem ok_round_By65535 : SumOK Tryz.prog InvN S_round_By65535 := okA_round_By65535 fun p0 _ _ => by rw [okB_round_By65535]; rfl
noncomputable def F_round_By65535 (p0 : Int) : Int := (fun l => num (l.getD 0 undef)) (L_round_By65535 [.int .u64 p0])
theorem F_round_By65535_eq (p0 : Int) : F_round_By65535 p0 =
 bif (pre_round_By65535_2 [.int .u64 p0, .int .u64 0]) then
 (let x0 := LF_round_By65535_2 [.int .u64 p0, .int .u64 0]
 bif (decide ((num (x0.getD 1 undef)) ≥ 32768)) then
 ((IntKind.u64.wrap ((num (x0.getD 2 undef)) + 1)))
 else
 ((num (x0.getD 2 undef))))
 else
 ((num undef)) :=
 spellV (L := L_round_By65535) (fun l => num (l.getD 0 undef)) (evFM ⟨[], [LC_round_By65535_2]⟩ Tryz.prog [] 1000 56 (inL A_round_By65535 [.int .u64 p0]) R_round_By65535) (L_round_By65535_is _) (by kernel_rfl)
def A_scale_Pixel : List PS := [.agg [.i .u16, .i .u16, .i .u16, .i .u16, .i .u16], .c (.i .u16), .c (.i .u16)]
def R_scale_Pixel : RS := .tup [.agg [.i .u16, .i .u16, .i .u16, .i .u16, .i .u16], .c (.b)]
def head_scale_Pixel_4 : Shp := ⟨[.any, .p (.c (.h (.i .u16))), .p (.c (.h (.i .u16))), .p (.c (.p 0 0)), .any, .any, .p (.c (.p 1 0)), .any, .any, .any, .any, .any, .any, .any, .any, .any, .any, .any, .any, .any, .any, .any, .any, .any, .any, .any, .any, .any, .any, .any, .any, .any, .any, .any, .any, .any, .any, .p (.agg [.p 0 0, .p 0 1, .p 0 2, .p 0 3, .p 0 4]), .p (.c (.h (.i .i64))), .any, .any, .any, .any, .any, .any, .any, .any, .any, .any, .any, .any, .any, .any, .any, .any, .any, .any, .any, .any, .any, .any, .any, .any], [(0, ⟨[.h (.i .u16), .h (.i .u16), .h (.i .u16), .h (.i .u16), .h (.i .u16)], 39, true, none⟩), (1, ⟨[.h (.i .u16), .h (.i .u16), .h (.i .u16), .h (.i .u16), .h (.i .u16)], 39, true, none⟩)]⟩
def outs_scale_Pixel_4 : List (Xt × Shp × Nat) := [(.exit 0, ⟨[.any, .any, .any, .p (.c (.p 0 0)), .any, .any, .p (.c (.p 1 0)), .any, .any, .any, .any, .any, .any, .any, .any, .any, .any, .any, .any, .any, .any, .any, .any, .any, .any, .any, .any, .any, .any, .any, .any, .any, .any, .any, .any, .any, .any, .any, .any, .any, .any, .any, .any, .any, .any, .any, .any, .any, .any, .any, .any, .any, .any, .any, .any, .any, .any, .any, .any, .any, .any, .any, .any], [(0, ⟨[.h (.i .u16), .h (.i .u16), .h (.i .u16), .h (.i .u16), .h (.i .u16)], 39, true, none⟩), (1, ⟨[.h (.i .u16), .h (.i .u16), .h (.i .u16), .h (.i .u16), .h (.i .u16)], 39, true, none⟩)]⟩, 2)]
noncomputable def OUT_scale_Pixel_4 (p0 p1 p2 p3 p4 p5 p6 p7 p8 p9 p10 p11 p12 : Int) : List Value :=
 bif (decide (p2 < 5)) then
 (bif (p2 == 0) then
 (bif (p1 == 255) then
 (let x0 := F_round_By255 (IntKind.u32.wrap (p3 * p0))
 [.int .i64 (-1), .int .u16 p0, .int .u16 p1, .int .i64 (IntKind.i64.wrap (p2 + 1)), .int .u16 (IntKind.u16.wrap x0), .int .u16 p4, .int .u16 p5, .int .u16 p6, .int .u16 p7, .int .u16 p8, .int .u16 p9, .int .u16 p10, .int .u16 p11, .int .u16 p12])
 else
 (let x1 := F_round_By65535 (IntKind.u32.wrap (p3 * p0))
 [.int .i64 (-1), .int .u16 p0, .int .u16 p1, .int .i64 (IntKind.i64.wrap (p2 + 1)), .int .u16 (IntKind.u16.wrap x1), .int .u16 p4, .int .u16 p5, .int .u16 p6, .int .u16 p7, .int .u16 p8, .int .u16 p9, .int .u16 p10, .int .u16 p11, .int .u16 p12]))
 else
 (bif (p2 == 1) then
 (bif (p1 == 255) then
 (let x2 := F_round_By255 (IntKind.u32.wrap (p4 * p0))
 [.int .i64 (-1), .int .u16 p0, .int .u16 p1, .int .i64 (IntKind.i64.wrap (p2 + 1)), .int .u16 p3, .int .u16 (IntKind.u16.wrap x2), .int .u16 p5, .int .u16 p6, .int .u16 p7, .int .u16 p8, .int .u16 p9, .int .u16 p10, .int .u16 p11, .int .u16 p12])
 else
 (let x3 := F_round_By65535 (IntKind.u32.wrap (p4 * p0))
 [.int .i64 (-1), .int .u16 p0, .int .u16 p1, .int .i64 (IntKind.i64.wrap (p2 + 1)), .int .u16 p3, .int .u16 (IntKind.u16.wrap x3), .int .u16 p5, .int .u16 p6, .int .u16 p7, .int .u16 p8, .int .u16 p9, .int .u16 p10, .int .u16 p11, .int .u16 p12]))
 else
 (bif (p2 == 2) then
 (bif (p1 == 255) then
 (let x4 := F_round_By255 (IntKind.u32.wrap (p5 * p0))
 [.int .i64 (-1), .int .u16 p0, .int .u16 p1, .int .i64 (IntKind.i64.wrap (p2 + 1)), .int .u16 p3, .int .u16 p4, .int .u16 (IntKind.u16.wrap x4), .int .u16 p6, .int .u16 p7, .int .u16 p8, .int .u16 p9, .int .u16 p10, .int .u16 p11, .int .u16 p12])
 else
 (let x5 := F_round_By65535 (IntKind.u32.wrap (p5 * p0))
 [.int .i64 (-1), .int .u16 p0, .int .u16 p1, .int .i64 (IntKind.i64.wrap (p2 + 1)), .int .u16 p3, .int .u16 p4, .int .u16 (IntKind.u16.wrap x5), .int .u16 p6, .int .u16 p7, .int .u16 p8, .int .u16 p9, .int .u16 p10, .int .u16 p11, .int .u16 p12]))
 else
 (bif (p2 == 3) then
 (bif (p1 == 255) then
 (let x6 := F_round_By255 (IntKind.u32.wrap (p6 * p0))
 [.int .i64 (-1), .int .u16 p0, .int .u16 p1, .int .i64 (IntKind.i64.wrap (p2 + 1)), .int .u16 p3, .int .u16 p4, .int .u16 p5, .int .u16 (IntKind.u16.wrap x6), .int .u16 p7, .int .u16 p8, .int .u16 p9, .int .u16 p10, .int .u16 p11, .int .u16 p12])
 else
 (let x7 := F_round_By65535 (IntKind.u32.wrap (p6 * p0))
 [.int .i64 (-1), .int .u16 p0, .int .u16 p1, .int .i64 (IntKind.i64.wrap (p2 + 1)), .int .u16 p3, .int .u16 p4, .int .u16 p5, .int .u16 (IntKind.u16.wrap x7), .int .u16 p7, .int .u16 p8, .int .u16 p9, .int .u16 p10, .int .u16 p11, .int .u16 p12]))
 else
 (bif (p2 == 4) then
 (bif (p1 == 255) then
 (let x8 := F_round_By255 (IntKind.u32.wrap (p7 * p0))
 [.int .i64 (-1), .int .u16 p0, .int .u16 p1, .int .i64 (IntKind.i64.wrap (p2 + 1)), .int .u16 p3, .int .u16 p4, .int .u16 p5, .int .u16 p6, .int .u16 (IntKind.u16.wrap x8), .int .u16 p8, .int .u16 p9, .int .u16 p10, .int .u16 p11, .int .u16 p12])
 else
 (let x9 := F_round_By65535 (IntKind.u32.wrap (p7 * p0))
 [.int .i64 (-1), .int .u16 p0, .int .u16 p1, .int .i64 (IntKind.i64.wrap (p2 + 1)), .int .u16 p3, .int .u16 p4, .int .u16 p5, .int .u16 p6, .int .u16 (IntKind.u16.wrap x9), .int .u16 p8, .int .u16 p9, .int .u16 p10, .int .u16 p11, .int .u16 p12]))
 else
 ([]))))))
 else
 ([.int .i64 0, .int .u16 p3, .int .u16 p4, .int .u16 p5, .int .u16 p6, .int .u16 p7, .int .u16 p8, .int .u16 p9, .int .u16 p10, .int .u16 p11, .int .u16 p12])
noncomputable def OL_scale_Pixel_4 (xs : List Value) : List Value := OUT_scale_Pixel_4 (num (xs.getD 0 undef)) (num (xs.getD 1 undef)) (num (xs.getD 2 undef)) (num (xs.getD 3 undef)) (num (xs.getD 4 undef)) (num (xs.getD 5 undef)) (num (xs.getD 6 undef)) (num (xs.getD 7 undef)) (num (xs.getD 8 undef)) (num (xs.getD 9 undef)) (num (xs.getD 10 undef)) (num (xs.getD 11 undef)) (num (xs.getD 12 undef))
noncomputable def LF_scale_Pixel_4 : List Value → List Value := LFof OL_scale_Pixel_4
def pre_scale_Pixel_4 (xs : List Value) : Bool := decide (0 ≤ num (xs.getD 2 undef)) && decide (num (xs.getD 2 undef) ≤ 5)
noncomputable def LC_scale_Pixel_4 : LoopC := ⟨46, 4, LF_scale_Pixel_4, pre_scale_Pixel_4, 2, head_scale_Pixel_4, outs_scale_Pixel_4⟩
theorem LF_scale_Pixel_4_go (p0 p1 p2 p3 p4 p5 p6 p7 p8 p9 p10 p11 p12 : Int) : LF_scale_Pixel_4 [.int .u16 p0, .int .u16 p1, .int .i64 p2, .int .u16 p3, .int .u16 p4, .int .u16 p5, .int .u16 p6, .int .u16 p7, .int .u16 p8, .int .u16 p9, .int .u16 p10, .int .u16 p11, .int .u16 p12] = goOn LF_scale_Pixel_4 (OUT_scale_Pixel_4 p0 p1 p2 p3 p4 p5 p6 p7 p8 p9 p10 p11 p12) := LFof_eq _ _
theorem okBL_scale_Pixel_4 (p0 p1 p2 p3 p4 p5 p6 p7 p8 p9 p10 p11 p12 : Int) : (evL ⟨[], []⟩ Tryz.prog [S_sample_Valid, S_round_By255, S_round_By65535] 1000 LC_scale_Pixel_4 [.int .u16 p0, .int .u16 p1, .int .i64 p2, .int .u16 p3, .int .u16 p4, .int .u16 p5, .int .u16 p6, .int .u16 p7, .int .u16 p8, .int .u16 p9, .int .u16 p10, .int .u16 p11, .int .u16 p12]).ok =
 bif (decide (p2 < 5)) then
 (bif (p2 == 0) then
 (true)
 else
 (bif (p2 == 1) then
 (true)
 else
 (bif (p2 == 2) then
 (true)
 else
 (bif (p2 == 3) then
 (true)
 else
 (bif (p2 == 4) then
 (true)
 else
 (false))))))
 else
 (true) := (okR_eq _).trans (by kernel_rfl)
theorem step_scale_Pixel_4 (p0 p1 p2 p3 p4 p5 p6 p7 p8 p9 p10 p11 p12 : Int) : (evL ⟨[], []⟩ Tryz.prog [S_sample_Valid, S_round_By255, S_round_By65535] 1000 LC_scale_Pixel_4 [.int .u16 p0, .int .u16 p1, .int .i64 p2, .int .u16 p3, .int .u16 p4, .int .u16 p5, .int .u16 p6, .int .u16 p7, .int .u16 p8, .int .u16 p9, .int .u16 p10, .int .u16 p11, .int .u16 p12]).outL = OUT_scale_Pixel_4 p0 p1 p2 p3 p4 p5 p6 p7 p8 p9 p10 p11 p12 := (fold_eq (fun l => l) _).trans (by kernel_rfl)
theorem one_scale_Pixel_4 : (loopsBy Tryz.prog 46 4).length = 1 := by kernel_rfl
theorem env_scale_Pixel_4 : EnvOK Tryz.prog InvN ⟨[], []⟩ ∧ AllOK Tryz.prog InvN [S_sample_Valid, S_round_By255, S_round_By65535] := ⟨⟨allC_nil, allL_nil⟩, (allOK_cons ok_sample_Valid (allOK_cons ok_round_By255 (allOK_cons ok_round_By65535 allOK_nil)))⟩
theorem lp_scale_Pixel_4 (meas : List Value → Nat) (h : ∀ p0 p1 p2 p3 p4 p5 p6 p7 p8 p9 p10 p11 p12, IntKind.u16.min ≤ p0 → p0 ≤ IntKind.u16.max → IntKind.u16.min ≤ p1 → p1 ≤ IntKind.u16.max → IntKind.i64.min ≤ p2 → p2 ≤ IntKind.i64.max → IntKind.u16.min ≤ p3 → p3 ≤ IntKind.u16.max → IntKind.u16.min ≤ p4 → p4 ≤ IntKind.u16.max → IntKind.u16.min ≤ p5 → p5 ≤ IntKind.u16.max → IntKind.u16.min ≤ p6 → p6 ≤ IntKind.u16.max → IntKind.u16.min ≤ p7 → p7 ≤ IntKind.u16.max → IntKind.u16.min ≤ p8 → p8 ≤ IntKind.u16.max → IntKind.u16.min ≤ p9 → p9 ≤ IntKind.u16.max → IntKind.u16.min ≤ p10 → p10 ≤ IntKind.u16.max → IntKind.u16.min ≤ p11 → p11 ≤ IntKind.u16.max → IntKind.u16.min ≤ p12 → p12 ≤ IntKind.u16.max → pre_scale_Pixel_4 [.int .u16 p0, .int .u16 p1, .int .i64 p2, .int .u16 p3, .int .u16 p4, .int .u16 p5, .int .u16 p6, .int .u16 p7, .int .u16 p8, .int .u16 p9, .int .u16 p10, .int .u16 p11, .int .u16 p12] = true → (evL ⟨[], []⟩ Tryz.prog [S_sample_Valid, S_round_By255, S_round_By65535] 1000 LC_scale_Pixel_4 [.int .u16 p0, .int .u16 p1, .int .i64 p2, .int .u16 p3, .int .u16 p4, .int .u16 p5, .int .u16 p6, .int .u16 p7, .int .u16 p8, .int .u16 p9, .int .u16 p10, .int .u16 p11, .int .u16 p12]).ok = true ∧ okO pre_scale_Pixel_4 meas (meas [.int .u16 p0, .int .u16 p1, .int .i64 p2, .int .u16 p3, .int .u16 p4, .int .u16 p5, .int .u16 p6, .int .u16 p7, .int .u16 p8, .int .u16 p9, .int .u16 p10, .int .u16 p11, .int .u16 p12]) (OUT_scale_Pixel_4 p0 p1 p2 p3 p4 p5 p6 p7 p8 p9 p10 p11 p12)) : LoopTrue Tryz.prog InvN LC_scale_Pixel_4 := loop_lf env_scale_Pixel_4 1000 LC_scale_Pixel_4 one_scale_Pixel_4 meas OL_scale_Pixel_4 rfl (by
 refine kLi fun p0 p0lo p0hi => ?_
 refine kLi fun p1 p1lo p1hi => ?_
 refine kLi fun p2 p2lo p2hi => ?_
 refine kLi fun p3 p3lo p3hi => ?_
 refine kLi fun p4 p4lo p4hi => ?_
 refine kLi fun p5 p5lo p5hi => ?_
 refine kLi fun p6 p6lo p6hi => ?_
 refine kLi fun p7 p7lo p7hi => ?_
 refine kLi fun p8 p8lo p8hi => ?_
 refine kLi fun p9 p9lo p9hi => ?_
 refine kLi fun p10 p10lo p10hi => ?_
 refine kLi fun p11 p11lo p11hi => ?_
 refine kLi fun p12 p12lo p12hi => ?_
 refine kLn ?_
 intro hp
 have h := h p0 p1 p2 p3 p4 p5 p6 p7 p8 p9 p10 p11 p12 p0lo p0hi p1lo p1hi p2lo p2hi p3lo p3hi p4lo p4hi p5lo p5hi p6lo p6hi p7lo p7hi p8lo p8hi p9lo p9hi p10lo p10hi p11lo p11hi p12lo p12hi hp
 exact ⟨h.1, step_scale_Pixel_4 p0 p1 p2 p3 p4 p5 p6 p7 p8 p9 p10 p11 p12, h.2⟩)
theorem ok_scale_Pixel_4 : LoopTrue Tryz.prog InvN LC_scale_Pixel_4 := lp_scale_Pixel_4 (fun xs => (5 - num (xs.getD 2 undef)).toNat) (by
 intro p0 p1 p2 p3 p4 p5 p6 p7 p8 p9 p10 p11 p12 _ _ _ _ _ _ _ _ _ _ _ _ _ _ _ _ _ _ _ _ _ _ _ _ _ _ hp
 have hp : (decide (0 ≤ p2) && decide (p2 ≤ 5)) = true := hp
 simp only [Bool.and_eq_true, decide_eq_true_eq] at hp
 have nx : ∀ ys, p2 < 5 → okO pre_scale_Pixel_4 (fun xs => (5 - num (xs.getD 2 undef)).toNat) (5 - p2).toNat (.int .i64 (-1) :: .int .u16 p0 :: .int .u16 p1 :: .int .i64 (IntKind.i64.wrap (p2 + 1)) :: ys) := fun ys h => okO_next (by
  show (decide (0 ≤ IntKind.i64.wrap (p2 + 1)) && decide (IntKind.i64.wrap (p2 + 1) ≤ 5)) = true
  rw [i64_in (by omega) (by omega)]
  simp only [Bool.and_eq_true, decide_eq_true_eq]
  omega) (by
  show (5 - IntKind.i64.wrap (p2 + 1)).toNat < _
  rw [i64_in (by omega) (by omega)]
  omega)
 rw [okBL_scale_Pixel_4]
 refine ⟨bif_ok (fun h => ?_) (fun _ => rfl), ?_⟩
 ·have h : p2 < 5 := of_decide_eq_true h
  have : p2 = 0 ∨ p2 = 1 ∨ p2 = 2 ∨ p2 = 3 ∨ p2 = 4 := by omega
  rcases this with rfl | rfl | rfl | rfl | rfl <;> rfl
 ·unfold OUT_scale_Pixel_4
  dsimp only
  refine okO_bif (fun h => ?_) (fun _ => okO_exit 0)
  have h : p2 < 5 := of_decide_eq_true h
  have : p2 = 0 ∨ p2 = 1 ∨ p2 = 2 ∨ p2 = 3 ∨ p2 = 4 := by omega
  rcases this with rfl | rfl | rfl | rfl | rfl <;> simp only [Int.reduceBEq, cond_true, cond_false] <;> exact okO_bif (fun _ => nx _ (by decide)) (fun _ => nx _ (by decide)))
noncomputable def L_scale_Pixel : List Value → List Value := Classical.choose (veil fun vs => (evFM ⟨[], [LC_scale_Pixel_4]⟩ Tryz.prog [S_sample_Valid, S_round_By255, S_round_By65535] 1000 46 (inL A_scale_Pixel vs) R_scale_Pixel).outL)
theorem L_scale_Pixel_is (vs : List Value) : L_scale_Pixel vs = (evFM ⟨[], [LC_scale_Pixel_4]⟩ Tryz.prog [S_sample_Valid, S_round_By255, S_round_By65535] 1000 46 (inL A_scale_Pixel vs) R_scale_Pixel).outL := Classical.choose_spec (veil _) vs
noncomputable def S_scale_Pixel : Sum := ⟨46, L_scale_Pixel, A_scale_Pixel, R_scale_Pixel⟩
theorem env_scale_Pixel : EnvOK Tryz.prog InvN ⟨[], [LC_scale_Pixel_4]⟩ ∧ AllOK Tryz.prog InvN [S_sample_Valid, S_round_By255, S_round_By65535] := ⟨⟨allC_nil, (allL_cons ok_scale_Pixel_4 allL_nil)⟩, (allOK_cons ok_sample_Valid (allOK_cons ok_round_By255 (allOK_cons ok_round_By65535 allOK_nil)))⟩
theorem okG_scale_Pixel (vs : List Value) : (evFM ⟨[], [LC_scale_Pixel_4]⟩ Tryz.prog [S_sample_Valid, S_round_By255, S_round_By65535] 1000 46 (inL A_scale_Pixel vs) R_scale_Pixel).goodX R_scale_Pixel = true := by kernel_rfl
theorem okB_scale_Pixel (p0 p1 p2 p3 p4 p5 p6 : Int) : (evFM ⟨[], [LC_scale_Pixel_4]⟩ Tryz.prog [S_sample_Valid, S_round_By255, S_round_By65535] 1000 46 (inL A_scale_Pixel [.int .u16 p0, .int .u16 p1, .int .u16 p2, .int .u16 p3, .int .u16 p4, .int .u16 p5, .int .u16 p6]) R_scale_Pixel).ok =
 bif (p6 != 255) then
 (bif (p6 != 65535) then
 (true)
 else
 (let x0 := F_sample_Valid p0 p1 p2 p3 p4 p6
 bif (!x0) then
 (true)
 else
 (bif (decide (p5 > p6)) then
 (true)
 else
 (bif (pre_scale_Pixel_4 [.int .u16 p5, .int .u16 p6, .int .i64 0, .int .u16 p0, .int .u16 p1, .int .u16 p2, .int .u16 p3, .int .u16 p4, .int .u16 0, .int .u16 0, .int .u16 0, .int .u16 0, .int .u16 0]) then
 (true)
 else
 (false)))))
 else
 (let x1 := F_sample_Valid p0 p1 p2 p3 p4 p6
 bif (!x1) then
 (true)
 else
 (bif (decide (p5 > p6)) then
 (true)
 else
 (bif (pre_scale_Pixel_4 [.int .u16 p5, .int .u16 p6, .int .i64 0, .int .u16 p0, .int .u16 p1, .int .u16 p2, .int .u16 p3, .int .u16 p4, .int .u16 0, .int .u16 0, .int .u16 0, .int .u16 0, .int .u16 0]) then
 (true)
 else
 (false)))) := (okR_eq _).trans (by kernel_rfl)
theorem okA_scale_Pixel (h : ∀ p0 p1 p2 p3 p4 p5 p6 , IntKind.u16.min ≤ p0 → p0 ≤ IntKind.u16.max → IntKind.u16.min ≤ p1 → p1 ≤ IntKind.u16.max → IntKind.u16.min ≤ p2 → p2 ≤ IntKind.u16.max → IntKind.u16.min ≤ p3 → p3 ≤ IntKind.u16.max → IntKind.u16.min ≤ p4 → p4 ≤ IntKind.u16.max → IntKind.u16.min ≤ p5 → p5 ≤ IntKind.u16.max → IntKind.u16.min ≤ p6 → p6 ≤ IntKind.u16.max → (evFM ⟨[], [LC_scale_Pixel_4]⟩ Tryz.prog [S_sample_Valid, S_round_By255, S_round_By65535] 1000 46 (inL A_scale_Pixel [.int .u16 p0, .int .u16 p1, .int .u16 p2, .int .u16 p3, .int .u16 p4, .int .u16 p5, .int .u16 p6]) R_scale_Pixel).ok = true) : SumOK Tryz.prog InvN S_scale_Pixel := sumOK_partL invN_stays env_scale_Pixel.1 env_scale_Pixel.2 1000 46 A_scale_Pixel R_scale_Pixel L_scale_Pixel_is okG_scale_Pixel (by
 refine kLi fun p0 p0lo p0hi => ?_
 refine kLi fun p1 p1lo p1hi => ?_
 refine kLi fun p2 p2lo p2hi => ?_
 refine kLi fun p3 p3lo p3hi => ?_
 refine kLi fun p4 p4lo p4hi => ?_
 refine kLi fun p5 p5lo p5hi => ?_
 refine kLi fun p6 p6lo p6hi => ?_
 refine kLn ?_
 exact h p0 p1 p2 p3 p4 p5 p6 p0lo p0hi p1lo p1hi p2lo p2hi p3lo p3hi p4lo p4hi p5lo p5hi p6lo p6hi)
theorem ok_scale_Pixel : SumOK Tryz.prog InvN S_scale_Pixel := okA_scale_Pixel (by
 intro p0 p1 p2 p3 p4 p5 p6 _ _ _ _ _ _ _ _ _ _ _ _ _ _
 rw [okB_scale_Pixel]
 refine bif_ok (fun _ => bif_ok (fun _ => rfl) (fun _ => ?_)) (fun _ => ?_) <;>
 exact bif_ok (fun _ => rfl) (fun _ => bif_ok (fun _ => rfl) (fun _ => bif_ok (fun _ => rfl) (fun h => Bool.noConfusion ((show true = false from h))))))
noncomputable def F_scale_Pixel (p0 p1 p2 p3 p4 p5 p6 : Int) : Int × Int × Int × Int × Int × Bool := (fun l => (num (l.getD 0 undef), num (l.getD 1 undef), num (l.getD 2 undef), num (l.getD 3 undef), num (l.getD 4 undef), tru (l.getD 5 undef))) (L_scale_Pixel [.int .u16 p0, .int .u16 p1, .int .u16 p2, .int .u16 p3, .int .u16 p4, .int .u16 p5, .int .u16 p6])
theorem F_scale_Pixel_eq (p0 p1 p2 p3 p4 p5 p6 : Int) : F_scale_Pixel p0 p1 p2 p3 p4 p5 p6 =
 bif (p6 != 255) then
 (bif (p6 != 65535) then
 ((0, 0, 0, 0, 0, false))
 else
 (let x0 := F_sample_Valid p0 p1 p2 p3 p4 p6
 bif (!x0) then
 ((0, 0, 0, 0, 0, false))
 else
 (bif (decide (p5 > p6)) then
 ((0, 0, 0, 0, 0, false))
 else
 (bif (pre_scale_Pixel_4 [.int .u16 p5, .int .u16 p6, .int .i64 0, .int .u16 p0, .int .u16 p1, .int .u16 p2, .int .u16 p3, .int .u16 p4, .int .u16 0, .int .u16 0, .int .u16 0, .int .u16 0, .int .u16 0]) then
 (let x1 := LF_scale_Pixel_4 [.int .u16 p5, .int .u16 p6, .int .i64 0, .int .u16 p0, .int .u16 p1, .int .u16 p2, .int .u16 p3, .int .u16 p4, .int .u16 0, .int .u16 0, .int .u16 0, .int .u16 0, .int .u16 0]
 ((num (x1.getD 1 undef)), (num (x1.getD 2 undef)), (num (x1.getD 3 undef)), (num (x1.getD 4 undef)), (num (x1.getD 5 undef)), true))
 else
 (((num undef), (num undef), (num undef), (num undef), (num undef), (tru undef)))))))
 else
 (let x2 := F_sample_Valid p0 p1 p2 p3 p4 p6
 bif (!x2) then
 ((0, 0, 0, 0, 0, false))
 else
 (bif (decide (p5 > p6)) then
 ((0, 0, 0, 0, 0, false))
 else
 (bif (pre_scale_Pixel_4 [.int .u16 p5, .int .u16 p6, .int .i64 0, .int .u16 p0, .int .u16 p1, .int .u16 p2, .int .u16 p3, .int .u16 p4, .int .u16 0, .int .u16 0, .int .u16 0, .int .u16 0, .int .u16 0]) then
 (let x3 := LF_scale_Pixel_4 [.int .u16 p5, .int .u16 p6, .int .i64 0, .int .u16 p0, .int .u16 p1, .int .u16 p2, .int .u16 p3, .int .u16 p4, .int .u16 0, .int .u16 0, .int .u16 0, .int .u16 0, .int .u16 0]
 ((num (x3.getD 1 undef)), (num (x3.getD 2 undef)), (num (x3.getD 3 undef)), (num (x3.getD 4 undef)), (num (x3.getD 5 undef)), true))
 else
 (((num undef), (num undef), (num undef), (num undef), (num undef), (tru undef)))))) :=
 spellV (L := L_scale_Pixel) (fun l => (num (l.getD 0 undef), num (l.getD 1 undef), num (l.getD 2 undef), num (l.getD 3 undef), num (l.getD 4 undef), tru (l.getD 5 undef))) (evFM ⟨[], [LC_scale_Pixel_4]⟩ Tryz.prog [S_sample_Valid, S_round_By255, S_round_By65535] 1000 46 (inL A_scale_Pixel [.int .u16 p0, .int .u16 p1, .int .u16 p2, .int .u16 p3, .int .u16 p4, .int .u16 p5, .int .u16 p6]) R_scale_Pixel) (L_scale_Pixel_is _) (by kernel_rfl)
def A_scale_Both : List PS := [.agg [.i .u16, .i .u16, .i .u16, .i .u16, .i .u16], .c (.i .u16), .c (.i .u16), .c (.i .u16)]
def R_scale_Both : RS := .tup [.agg [.i .u16, .i .u16, .i .u16, .i .u16, .i .u16], .c (.b)]
noncomputable def L_scale_Both : List Value → List Value := Classical.choose (veil fun vs => (evF Tryz.prog [S_scale_Pixel] 1000 47 (inL A_scale_Both vs)).outL)
theorem L_scale_Both_is (vs : List Value) : L_scale_Both vs = (evF Tryz.prog [S_scale_Pixel] 1000 47 (inL A_scale_Both vs)).outL := Classical.choose_spec (veil _) vs
noncomputable def S_scale_Both : Sum := ⟨47, L_scale_Both, A_scale_Both, R_scale_Both⟩
theorem ok_scale_Both : SumOK Tryz.prog InvN S_scale_Both := sumOK_evV invN_stays (allOK_cons ok_scale_Pixel allOK_nil) 1000 47 A_scale_Both R_scale_Both L_scale_Both_is (fun _ => by kernel_rfl)
noncomputable def F_scale_Both (p0 p1 p2 p3 p4 p5 p6 p7 : Int) : Int × Int × Int × Int × Int × Bool := (fun l => (num (l.getD 0 undef), num (l.getD 1 undef), num (l.getD 2 undef), num (l.getD 3 undef), num (l.getD 4 undef), tru (l.getD 5 undef))) (L_scale_Both [.int .u16 p0, .int .u16 p1, .int .u16 p2, .int .u16 p3, .int .u16 p4, .int .u16 p5, .int .u16 p6, .int .u16 p7])
theorem F_scale_Both_eq (p0 p1 p2 p3 p4 p5 p6 p7 : Int) : F_scale_Both p0 p1 p2 p3 p4 p5 p6 p7 =
 let x0 := F_scale_Pixel p0 p1 p2 p3 p4 p5 p7
 bif (!x0.2.2.2.2.2) then
 ((0, 0, 0, 0, 0, false))
 else
 (let x1 := F_scale_Pixel x0.1 x0.2.1 x0.2.2.1 x0.2.2.2.1 x0.2.2.2.2.1 p6 p7
 (x1.1, x1.2.1, x1.2.2.1, x1.2.2.2.1, x1.2.2.2.2.1, x1.2.2.2.2.2)) :=
 spellV (L := L_scale_Both) (fun l => (num (l.getD 0 undef), num (l.getD 1 undef), num (l.getD 2 undef), num (l.getD 3 undef), num (l.getD 4 undef), tru (l.getD 5 undef))) (evF Tryz.prog [S_scale_Pixel] 1000 47 (inL A_scale_Both [.int .u16 p0, .int .u16 p1, .int .u16 p2, .int .u16 p3, .int .u16 p4, .int .u16 p5, .int .u16 p6, .int .u16 p7])) (L_scale_Both_is _) (by kernel_rfl)
end Go.Proofs.YtdioaiepkhepaaaGreatDoor
