/- Machines: scaling by the reference, what a call computes. No condition. -/
import Derived.Test.YtdioaiepkhepaaaGreatDoorSm22a
import Derived.Test.YtdioaiepkhepaaaGreatDoorScl
import Derived.Test.YtdioaiepkhepaaaGreatDoorGrp
import Derived.Test.YtdioaiepkhepaaaGreatDoorLaw10
namespace Go.Proofs.YtdioaiepkhepaaaGreatDoor
set_option maxRecDepth 100000
open Go.RowKit
theorem ov0 {x w m : Int} (hm : 1 ≤ m) : ov x w 0 m = x := by
 unfold ov
 have h := hv_exact (n := 0) hm
 rw [Int.zero_mul] at h
 rw [Int.mul_zero, h]
 omega
theorem step22 {m s0 s1 s2 a f : Int} (hm : m = 255 ∨ m = 65535) (_s : PV s0 s1 s2 a f m) : stepZ false 4 1 m s0 s1 s2 a f 0 0 0 0 0 0 0 0 0 0 = (s0, s1, s2, a, a, f, true) := by
 have m0 : 1 ≤ m := by omega
 have x1 : alphaZ 4 a 0 m = a := fresh_a m0 (by decide)
 have x2 : shapeZ 4 f 0 m = f := fresh_f m0 (by decide)
 unfold stepZ
 rw [if_neg (by decide), over_c m0, over_c m0, over_c m0, x1, x2, ov0 m0, ov0 m0, ov0 m0]
section
variable {c0 c1 c2 a f k m : Int} (hm : m = 255 ∨ m = 65535) (p : PV c0 c1 c2 a f m) (k0 : 0 ≤ k) (k1 : k ≤ m)
include hm p k0 k1
theorem refLoop : LF_r6_Scale_5 [.int .u16 k, .int .u16 m, .int .i64 0, .int .u16 c0, .int .u16 c1, .int .u16 c2, .int .u16 a, .int .u16 f, .int .u16 0, .int .u16 0, .int .u16 0, .int .u16 0, .int .u16 0, .int .u16 0, .int .u16 0, .int .u16 0, .int .u16 0, .int .u16 0] =
 [.int .i64 0, .int .u16 k, .int .u16 m, .int .u16 c0, .int .u16 c1, .int .u16 c2, .int .u16 a, .int .u16 f, .int .u16 0, .int .u16 0, .int .u16 0, .int .u16 0, .int .u16 0, .int .u16 (scl c0 k m), .int .u16 (scl c1 k m), .int .u16 (scl c2 k m), .int .u16 0, .int .u16 0] := by
 obtain ⟨l0, l1, l2, u0, u1, u2, af, fm⟩ := p
 have one : ∀ x, 0 ≤ x → x ≤ m → IntKind.u16.wrap (F_r1_Half (IntKind.u64.wrap (x * k)) m) = scl x k m := fun x x0 x1 => by
  have y0 := Int.mul_nonneg x0 k0
  have y1 : x * k ≤ m * m := Int.mul_le_mul x1 k1 k0 (by omega)
  have bd := scl_bd (show 1 ≤ m by omega) x0 k0 k1
  have y2 : x * k ≤ 4294836225 := by rcases hm with rfl | rfl <;> omega
  rw [IntWalk.u64_in _ ⟨y0, by omega⟩, rHalf y0 (by omega) (by omega) (by omega)]
  exact u16_in bd.1 (Int.le_trans bd.2 (by omega))
 have o0 := one c0 l0 (by omega)
 have o1 := one c1 l1 (by omega)
 have o2 := one c2 l2 (by omega)
 have w0 : IntKind.i64.wrap (0 + 1) = 1 := by decide
 have w1 : IntKind.i64.wrap (1 + 1) = 2 := by decide
 have w2 : IntKind.i64.wrap (2 + 1) = 3 := by decide
 rw [LF_r6_Scale_5_go]
 unfold OUT_r6_Scale_5
 simp only [Int.reduceLT, decide_true, Int.reduceBEq, cond_true, cond_false, goOn_next, w0, o0]
 rw [LF_r6_Scale_5_go]
 unfold OUT_r6_Scale_5
 simp only [Int.reduceLT, decide_true, Int.reduceBEq, cond_true, cond_false, goOn_next, w1, o1]
 rw [LF_r6_Scale_5_go]
 unfold OUT_r6_Scale_5
 simp only [Int.reduceLT, decide_true, Int.reduceBEq, cond_true, cond_false, goOn_next, w2, o2]
 rw [LF_r6_Scale_5_go]
 unfold OUT_r6_Scale_5
 rfl
end
theorem rScale {c0 c1 c2 a f k m : Int} (p : P16 c0 c1 c2 a f) (hk : Is16 k) : F_r6_Scale c0 c1 c2 a f k m = if (m = 255 ∨ m = 65535) ∧ VP c0 c1 c2 a f m ∧ k ≤ m then sclV c0 c1 c2 a f k m else (0, 0, 0, 0, 0, false) := by
 rw [F_r6_Scale_eq]
 have pre : ∀ x y z u v w t, pre_r6_Scale_5 [x, y, .int .i64 0, z, u, v, w, t, .int .u16 0, .int .u16 0, .int .u16 0, .int .u16 0, .int .u16 0, .int .u16 0, .int .u16 0, .int .u16 0, .int .u16 0, .int .u16 0] = true := fun _ _ _ _ _ _ _ => rfl
 simp only [pre, cond_true, rValidP, full_dec]
 by_cases hm : m = 255 ∨ m = 65535
 ·by_cases hv : VP c0 c1 c2 a f m
  ·by_cases hk1 : k ≤ m
   ·have pv := p.pv hv
    rw [if_pos ⟨hm, hv, hk1⟩, refLoop hm pv hk.1 hk1]
    have one : ∀ x, 0 ≤ x → x ≤ m → IntKind.u16.wrap (F_r1_Half (IntKind.u64.wrap (x * k)) m) = scl x k m := fun x x0 x1 => by
     have y0 := Int.mul_nonneg x0 hk.1
     have y1 : x * k ≤ m * m := Int.mul_le_mul x1 hk1 hk.1 (by omega)
     have bd := scl_bd (show 1 ≤ m by omega) x0 hk.1 hk1
     have y2 : x * k ≤ 4294836225 := by rcases hm with rfl | rfl <;> omega
     rw [IntWalk.u64_in _ ⟨y0, by omega⟩, rHalf y0 (by omega) (by omega) (by omega)]
     exact u16_in bd.1 (Int.le_trans bd.2 (by omega))
    have b1 := p.a.1
    have b2 := p.f.1
    have b3 := hv.2.2.2
    simp only [decide_eq_true hm, decide_eq_true hv, decide_eq_false (show ¬ k > m by omega), Bool.not_true, cond_false, List.getD_cons_succ, List.getD_cons_zero, num_int]
    rw [one a b1 (by omega), one f b2 (by omega)]
    rfl
   ·rw [if_neg (fun h => hk1 h.2.2)]
    simp only [decide_eq_true hm, decide_eq_true hv, decide_eq_true (show k > m by omega), Bool.not_true, cond_false, cond_true]
  ·rw [if_neg (fun h => hv h.2.1)]
   simp only [decide_eq_true hm, decide_eq_false hv, Bool.not_true, Bool.not_false, cond_true, cond_false]
 ·rw [if_neg (fun h => hm h.1)]
  simp only [decide_eq_false hm, Bool.not_false, cond_true]
theorem scales {c0 c1 c2 a f k m : Int} (p : P16 c0 c1 c2 a f) (hk : Is16 k) : F_scale_Pixel c0 c1 c2 a f k m = F_r6_Scale c0 c1 c2 a f k m := by rw [pScale p hk, rScale p hk]
theorem bothR {c0 c1 c2 a f k o m : Int} (p : P16 c0 c1 c2 a f) (hk : Is16 k) (ho : Is16 o) : F_r6_Both c0 c1 c2 a f k o m =
 if (m = 255 ∨ m = 65535) ∧ VP c0 c1 c2 a f m ∧ k ≤ m ∧ o ≤ m then sclV (scl c0 k m) (scl c1 k m) (scl c2 k m) (scl a k m) (scl f k m) o m else (0, 0, 0, 0, 0, false) := by
 rw [F_r6_Both_eq, rScale p hk]
 by_cases h : (m = 255 ∨ m = 65535) ∧ VP c0 c1 c2 a f m ∧ k ≤ m
 ·have q := sclV_pv (show 1 ≤ m by omega) (p.pv h.2.1) hk.1 h.2.2
  rw [if_pos h]
  simp only [sclV, Bool.not_true, cond_false]
  rw [rScale (q.p16 (by omega)) ho]
  by_cases h2 : o ≤ m
  ·rw [if_pos ⟨h.1, q.vp, h2⟩, if_pos ⟨h.1, h.2.1, h.2.2, h2⟩]
   rfl
  ·rw [if_neg (fun e => h2 e.2.2), if_neg (fun e => h2 e.2.2.2)]
 ·rw [if_neg h, if_neg (fun e => h ⟨e.1, e.2.1, e.2.2.1⟩)]
  rfl
theorem boths {c0 c1 c2 a f k o m : Int} (p : P16 c0 c1 c2 a f) (hk : Is16 k) (ho : Is16 o) : F_scale_Both c0 c1 c2 a f k o m = F_r6_Both c0 c1 c2 a f k o m := by
 rw [F_scale_Both_eq, F_r6_Both_eq, scales p hk, rScale p hk]
 by_cases h : (m = 255 ∨ m = 65535) ∧ VP c0 c1 c2 a f m ∧ k ≤ m
 ·have q := sclV_pv (show 1 ≤ m by omega) (p.pv h.2.1) hk.1 h.2.2
  rw [if_pos h]
  simp only [sclV, Bool.not_true, cond_false]
  rw [scales (q.p16 (by omega)) ho]
 ·rw [if_neg h]
  simp only [Bool.not_false, cond_true]
theorem both_full {c0 c1 c2 a f o m : Int} (p : P16 c0 c1 c2 a f) (hm : m = 255 ∨ m = 65535) (ho : Is16 o) : F_scale_Pixel c0 c1 c2 a f o m = F_r6_Both c0 c1 c2 a f m o m := by
 rw [pScale p ho, bothR p ⟨by omega, by omega⟩ ho]
 have m1 : 1 ≤ m := by omega
 by_cases h : VP c0 c1 c2 a f m ∧ o ≤ m
 ·rw [if_pos ⟨hm, h.1, h.2⟩, if_pos ⟨hm, h.1, Int.le_refl m, h.2⟩]
  unfold sclV
  rw [scl_full m1, scl_full m1, scl_full m1, scl_full m1, scl_full m1]
 ·rw [if_neg (fun e => h e.2), if_neg (fun e => h ⟨e.2.1, e.2.2.2⟩)]
theorem scaledF {L : Value} {m k o : Int} {c0 c1 c2 a f : Int} (p : P16 c0 c1 c2 a f) (hm : m = 255 ∨ m = 65535) (hk : Is16 k) (ho : Is16 o) (q0 q1 q2 q3 q4 q5 q6 q8 q9 : Int) (q10 q11 : Bool) :
 F_fM_scaled (PK [.int .u16 m, L]) q0 q1 q2 q3 q4 q5 q6 o q8 q9 q10 q11 c0 c1 c2 a f k = F_r6_Both c0 c1 c2 a f (if q4 = 0 then m else k) o m := by
 rw [F_fM_scaled_eq]
 have e : num (CV (PK [.int .u16 m, L]) 0) = m := rfl
 rw [e]
 by_cases h : q4 = 0
 ·rw [if_pos h, show (q4 == 0) = true from beq_iff_eq.2 h, cond_true, both_full p hm ho]
 ·rw [if_neg h, show (q4 == 0) = false from beq_eq_false_iff_ne.2 h, cond_false, boths p hk ho]
def OpV (K m : Int) (x : Int × Int × Int × Int × Int × Int × Int × Int × Int × Int × Bool × Bool) : Prop :=
 x.1 = K ∧ (0 ≤ x.2.2.2.2.2.2.2.1 ∧ x.2.2.2.2.2.2.2.1 ≤ m) ∧ (1 ≤ x.2.2.2.2.2.2.2.2.1 ∧ x.2.2.2.2.2.2.2.2.1 ≤ 12) ∧ (1 ≤ x.2.2.2.2.2.2.2.2.2.1 ∧ x.2.2.2.2.2.2.2.2.2.1 ≤ 12)
theorem OpV.mk {K m a0 a1 a2 a3 a4 a5 a6 a7 a8 a9 : Int} {b0 b1 : Bool} (h0 : a0 = K) (h1 : 0 ≤ a7 ∧ a7 ≤ m) (h2 : 1 ≤ a8 ∧ a8 ≤ 12) (h3 : 1 ≤ a9 ∧ a9 ≤ 12) : OpV K m (a0, a1, a2, a3, a4, a5, a6, a7, a8, a9, b0, b1) := ⟨h0, h1, h2, h3⟩
theorem gOp (p0 p1 p2 p3 p4 p5 p6 p7 p8 p9 p10 : Int) (b : Bool) (n x0 y0 x1 y1 : Int) (fr : Bool) {m : Int} (hm : Is16 m) : OpV (if b then 2 else 1) m (F_gen_Op p0 p1 p2 p3 p4 p5 p6 p7 p8 p9 p10 b n x0 y0 x1 y1 fr m) := by
 rw [F_gen_Op_eq]
 have s := gSample_le (IntKind.i64.wrap (Int.tdiv p7 2)) hm
 have o := mode12 (IntKind.i64.wrap (Int.tdiv p8 2))
 have k := mode12 (IntKind.i64.wrap (Int.tdiv p9 2))
 have f : 0 ≤ m ∧ m ≤ m := ⟨hm.1, Int.le_refl m⟩
 have d4 : 1 ≤ (4 : Int) ∧ (4 : Int) ≤ 12 := by decide
 have d1 : 1 ≤ (1 : Int) ∧ (1 : Int) ≤ 12 := by decide
 dsimp only
 generalize F_gen_Sample (IntKind.i64.wrap (Int.tdiv p7 2)) m = S at s ⊢
 generalize IntKind.i64.wrap (1 + F_gen_Mod (IntKind.i64.wrap (Int.tdiv p8 2)) 12) = O at o ⊢
 generalize IntKind.i64.wrap (1 + F_gen_Mod (IntKind.i64.wrap (Int.tdiv p9 2)) 12) = M at k ⊢
 cases b
 ·simp only [cond_false, Bool.false_eq_true, if_false]
  repeat' (refine bifP (p := OpV 1 m) (fun _ => ?_) (fun _ => ?_))
  all_goals (refine OpV.mk rfl ?_ ?_ ?_ <;> with_reducible assumption)
 ·simp only [cond_true, if_true]
  repeat' (refine bifP (p := OpV 2 m) (fun _ => ?_) (fun _ => ?_))
  all_goals (refine OpV.mk rfl ?_ ?_ ?_ <;> with_reducible assumption)
def opsC (e : Value) : List Value := [.int .i64 (num (CV e 0)), .int .i64 (num (CV e 1)), .int .i64 (num (CV e 2)), .int .i64 (num (CV e 3)), .int .i64 (num (CV e 4)), .int .i64 (num (CV e 5)), .int .i64 (num (CV e 6)), .int .u16 (num (CV e 7)), .int .i64 (num (CV e 8)), .int .i64 (num (CV e 9)), .bool (tru (CV e 10)), .bool (tru (CV e 11))]
def bckC (e : Value) : List Value := [.int .u16 (num (CV e 18)), .int .u16 (num (CV e 19)), .int .u16 (num (CV e 20)), .int .u16 (num (CV e 21)), .int .u16 (num (CV e 22))]
noncomputable def stepL (o k m : Int) (x : Int × Int × Int × Int × Int × Bool) (e : Value) : Int × Int × Int × Int × Int × Int × Bool :=
 F_group_Step (tru (CV e 11)) o k m x.1 x.2.1 x.2.2.1 x.2.2.2.1 x.2.2.2.2.1 (num (CV e 12)) (num (CV e 13)) (num (CV e 14)) (num (CV e 15)) (num (CV e 16)) (num (CV e 17)) (num (CV e 18)) (num (CV e 19)) (num (CV e 20)) (num (CV e 21)) (num (CV e 22))
def acC (x : Int × Int × Int × Int × Int × Int × Bool) : List Value := [.int .u16 x.1, .int .u16 x.2.1, .int .u16 x.2.2.1, .int .u16 x.2.2.2.1, .int .u16 x.2.2.2.2.1, .int .u16 x.2.2.2.2.2.1]
noncomputable def drawZ (q0 q4 o k r m : Int) (c0 c1 c2 a f s : Int) (L : Value) : List Value :=
 if q0 ≠ 1 ∨ ¬ VP c0 c1 c2 a f m then [.int .i64 0, .int .u16 0, .int .u16 0, .int .u16 0, .int .u16 0, .int .u16 0, .int .i64 20, .int .u16 m, L] else
 let x := F_r6_Both c0 c1 c2 a f (if q4 = 0 then m else s) r m
 bif !x.2.2.2.2.2 then [.int .i64 0, .int .u16 0, .int .u16 0, .int .u16 0, .int .u16 0, .int .u16 0, .int .i64 20, .int .u16 m, L] else
 let y := stepL o k m x (IX L (LN L - 1))
 bif !y.2.2.2.2.2.2 then [.int .i64 0, .int .u16 0, .int .u16 0, .int .u16 0, .int .u16 0, .int .u16 0, .int .i64 16, .int .u16 m, L] else
 [.int .i64 0, .int .u16 x.1, .int .u16 x.2.1, .int .u16 x.2.2.1, .int .u16 x.2.2.2.1, .int .u16 x.2.2.2.2.1, .int .i64 0, .int .u16 m, ST 0 L (LN L - 1) (opsC (IX L (LN L - 1)) ++ (acC y ++ bckC (IX L (LN L - 1))))]
theorem drawV {q0 q1 q2 q3 q4 q5 q6 r o k : Int} {b0 b1 : Bool} {c0 c1 c2 a f s m : Int} {L : Value} (hL : lenOK L = true) (p : P16 c0 c1 c2 a f) (hm : m = 255 ∨ m = 65535) (hs : Is16 s) (hr : Is16 r) :
 LF_fM_Draw [.int .i64 q0, .int .i64 q1, .int .i64 q2, .int .i64 q3, .int .i64 q4, .int .i64 q5, .int .i64 q6, .int .u16 r, .int .i64 o, .int .i64 k, .bool b0, .bool b1, .int .u16 c0, .int .u16 c1, .int .u16 c2, .int .u16 a, .int .u16 f, .int .u16 s, .int .u16 m, L] = drawZ q0 q4 o k r m c0 c1 c2 a f s L := by
 have hp : ∀ x y, pre_fM_paint (x :: L :: y) = true := fun _ _ => hL
 have hi : INB L (LN L - 1) = true := by rw [← lenOK.sub hL]; exact lenOK.last hL
 have em : num (CV (PK [.int .u16 m, L]) 0) = m := rfl
 rw [LF_fM_Draw_eq]
 unfold OUT_fM_Draw drawZ
 simp only [pValid, scaledF p hm hs hr, hp, cond_true, F_fM_paint_eq, hi, em, lenOK.sub hL]
 by_cases h0 : q0 = 1
 ·by_cases hv : VP c0 c1 c2 a f m
  ·rw [if_neg (show ¬ (q0 ≠ 1 ∨ ¬ VP c0 c1 c2 a f m) from fun h => h.elim (fun e => e h0) (fun e => e hv))]
   simp only [h0, bne_self_eq_false, cond_false, decide_eq_true hv, Bool.not_true]
   generalize F_r6_Both c0 c1 c2 a f (if q4 = 0 then m else s) r m = x
   obtain ⟨x0, x1, x2, x3, x4, x5⟩ := x
   cases x5 with
   | false => rfl
   | true =>
    simp only [Bool.not_true, cond_false, stepL]
    generalize F_group_Step (tru (CV (IX L (LN L - 1)) 11)) o k m x0 x1 x2 x3 x4 (num (CV (IX L (LN L - 1)) 12)) (num (CV (IX L (LN L - 1)) 13)) (num (CV (IX L (LN L - 1)) 14)) (num (CV (IX L (LN L - 1)) 15)) (num (CV (IX L (LN L - 1)) 16)) (num (CV (IX L (LN L - 1)) 17)) (num (CV (IX L (LN L - 1)) 18)) (num (CV (IX L (LN L - 1)) 19)) (num (CV (IX L (LN L - 1)) 20)) (num (CV (IX L (LN L - 1)) 21)) (num (CV (IX L (LN L - 1)) 22)) = y
    obtain ⟨y0, y1, y2, y3, y4, y5, y6⟩ := y
    cases y6 <;> rfl
  ·rw [if_pos (show q0 ≠ 1 ∨ ¬ VP c0 c1 c2 a f m from .inr hv)]
   simp only [h0, bne_self_eq_false, cond_false, decide_eq_false hv, Bool.not_false, cond_true]
 ·rw [if_pos (show q0 ≠ 1 ∨ ¬ VP c0 c1 c2 a f m from .inl h0), show (q0 != 1) = true from bne_iff_ne.2 h0, cond_true]
end Go.Proofs.YtdioaiepkhepaaaGreatDoor
