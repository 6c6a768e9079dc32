/- Knockout, as whole numbers: the program's and the reference's are one. -/
import Derived.Test.YtdioaiepkhepaaaGreatDoorMath08
import Derived.Test.YtdioaiepkhepaaaGreatDoorSm10
namespace Go.Proofs.YtdioaiepkhepaaaGreatDoor
open Go.RowKit
theorem hl0 {X : Int} (h0 : 0 ≤ X) (h1 : X < 18446744073709551616) : hiW X = 0 ∧ loW X = X := hiW0 h0 h1
theorem full_dec (m : Int) : F_r1_Full m = decide (m = 255 ∨ m = 65535) := by
 rw [F_r1_Full_eq]
 by_cases h : m = 255 <;> simp [h, beq_dec]
theorem pHalf {n d : Int} (hn : 0 ≤ n) (hn2 : n < 9223372036854775808) (hd : 1 ≤ d) (hd2 : d < 9223372036854775808) : F_round_Half n d = hv n 0 d := by
 rw [← rHalf hn hn2 hd hd2, F_round_Half_eq, F_r1_Half_eq]
theorem halfN {N q r D : Int} (hN : 0 ≤ N) (hN2 : N < 79228162514264337593543950336) (q0 : 0 ≤ q) (q1 : q < 70368744177664) (r0 : 0 ≤ r) (r1 : r < 8589934592) (hD : 1 ≤ D) (hD2 : D < 18446744073709551616) (hb : hv N (isq (4 * (q * q * r))) D ≤ 65535) :
 F_surd_Half (hiW N) (loW N) q r D = (hv N (isq (4 * (q * q * r))) D, true) ∧ F_r1_HalfExact (hiW N) (loW N) q r D = (hv N (isq (4 * (q * q * r))) D, true) := by
 have hw := hl_W hN (by rw [two128_eq]; omega)
 have hq : IsW q := ⟨q0, by omega⟩
 have hr : IsW r := ⟨r0, by omega⟩
 have hd : IsW D := ⟨by omega, hD2⟩
 have hhi : hiW N < 4294967296 := by unfold hiW; omega
 have h := sHalf_hv hw.1 hw.2 hq hr hd ⟨hhi, q1, r1, hD⟩ (by rw [U_hl]; omega)
 rw [U_hl] at h
 exact ⟨h, by rw [← halves ⟨hw.1, hw.2, hq, hr, hd⟩]; exact h⟩
theorem pAdd {X Y : Int} (h1 : X + Y < 340282366920938463463374607431768211456) : F_wide_Add (hiW X) (loW X) (hiW Y) (loW Y) = (hiW (X + Y), loW (X + Y), true) := by
 unfold F_wide_Add add128
 rw [U_hl, U_hl, if_pos (by rw [two128_eq]; exact h1)]
theorem qAdd {X Y : Int} (h1 : X + Y < 340282366920938463463374607431768211456) : F_r1_Add (hiW X) (loW X) (hiW Y) (loW Y) = (hiW (X + Y), loW (X + Y), true) := by
 unfold F_r1_Add add128
 rw [U_hl, U_hl, if_pos (by rw [two128_eq]; exact h1)]
def KV (k m s a f c d b : Int) : Prop := (1 ≤ k ∧ k ≤ 12) ∧ s ≤ a ∧ d ≤ b ∧ (m = 255 ∨ m = 65535) ∧ a ≤ f ∧ f ≤ m ∧ b ≤ m ∧ c ≤ m
instance (k m s a f c d b : Int) : Decidable (KV k m s a f c d b) := by unfold KV; infer_instance
def rootT (t : Int × Int × Int × Int × Int) : Int := t.2.2.1 * t.2.2.1 * t.2.2.2.1
noncomputable def kHalf (k m s a f c d b : Int) : Int := hv (((m - f) * c + (f - a) * d + (m - b) * s) * (termZ k s a d b).2.2.2.2 + (termZ k s a d b).2.1) (isq (4 * rootT (termZ k s a d b))) (m * (termZ k s a d b).2.2.2.2)
def kAlpha (m a f acc b : Int) : Int := hv ((m - f) * acc + (f - a) * b + m * a) 0 m
section
variable {k m s a f c d b : Int} (s1 : Is16 s) (a1 : Is16 a) (f1 : Is16 f) (c1 : Is16 c) (d1 : Is16 d) (b1 : Is16 b)
include a1 f1 c1 b1
theorem kAlpha_num (h : (m = 255 ∨ m = 65535) ∧ a ≤ f ∧ f ≤ m ∧ b ≤ m ∧ c ≤ m) : 0 ≤ (m - f) * c ∧ (m - f) * c ≤ 4294836225 ∧ 0 ≤ (f - a) * b ∧ (f - a) * b ≤ 4294836225 ∧ 0 ≤ m * a ∧ m * a ≤ 4294836225 ∧ (m - f) * c + (f - a) * b + m * a ≤ m * m := by
 obtain ⟨hm, af, fm, bm, cm⟩ := h
 have p1 := mulB (show 0 ≤ m - f by omega) (Int.le_refl _) c1.1 cm
 have p2 := mulB (show 0 ≤ f - a by omega) (Int.le_refl _) b1.1 bm
 have p3 := mulB (show 0 ≤ m by omega) (Int.le_refl m) a1.1 (show a ≤ m by omega)
 have e1 : (m - f) * m = m * m - m * f := by grind
 have e2 : (f - a) * m = m * f - m * a := by grind
 have p4 := mulB (show 0 ≤ m by omega) (Int.le_refl m) f1.1 fm
 have p5 := mulB (show 0 ≤ m by omega) (show m ≤ 65535 by omega) (show 0 ≤ m by omega) (show m ≤ 65535 by omega)
 omega
theorem kAlpha_bd (h : (m = 255 ∨ m = 65535) ∧ a ≤ f ∧ f ≤ m ∧ b ≤ m ∧ c ≤ m) : 0 ≤ kAlpha m a f c b ∧ kAlpha m a f c b ≤ m := by
 have p := kAlpha_num a1 f1 c1 b1 h
 have hm := h.1
 unfold kAlpha
 exact ⟨hv_nn (by omega) (Int.le_refl 0) (by omega), hv_le (by omega) (by
  have : 2 * m * m = 2 * (m * m) := Int.mul_assoc _ _ _
  omega)⟩
include s1 d1
theorem kNum (h : KV k m s a f c d b) : ∃ p q r den : Int, termZ k s a d b = (0, p, q, r, den) ∧ 0 ≤ p ∧ p < 18446744073709551616 ∧ 0 ≤ q ∧ q ≤ 65535 ∧ 0 ≤ r ∧ r ≤ 4294836225 ∧ 1 ≤ den ∧ den ≤ 4294836225 ∧
 0 ≤ (m - f) * c ∧ (m - f) * c ≤ 4294836225 ∧ 0 ≤ (f - a) * d ∧ (f - a) * d ≤ 4294836225 ∧ 0 ≤ (m - b) * s ∧ (m - b) * s ≤ 4294836225 ∧
 2 * (((m - f) * c + (f - a) * d + (m - b) * s) * den + p) + isq (4 * (q * q * r)) ≤ 2 * (((m - f) * c + (f - a) * b + m * a) * den) ∧ 0 ≤ isq (4 * (q * q * r)) ∧ 1 ≤ m * den ∧ m * den < 18446744073709551616 := by
 have l1 := s1.1; have l2 := a1.1; have l3 := f1.1; have l4 := c1.1; have l5 := d1.1; have l6 := b1.1
 obtain ⟨hk, sa, db, hm, af, fm, bm, cm⟩ := h
 have hs : CA s a := ⟨s1.1, sa, a1.2⟩
 have hd : CA d b := ⟨d1.1, db, b1.2⟩
 have hr := term_InR hs hd hk.1 hk.2
 have hden := term_den hs hd hk.1 hk.2
 have hw := exact_W k (w16 s1) a d (w16 b1)
 rw [exactCA hs hd hk.1 hk.2] at hw
 have hT := hr.T_le
 have hT0 := hr.T_nn
 generalize termZ k s a d b = t at *
 obtain ⟨ph, p, q, r, den⟩ := t
 obtain ⟨k1, k2, k3, k4, k5, k6, k7, k8, k9⟩ := hr
 simp only [XWof6] at k1 k2 k3 k4 k5 k6 k7 k8 k9 hden hT hT0 hw
 subst k1
 have p1 := mulB (show 0 ≤ m - f by omega) (show m - f ≤ 65535 by omega) c1.1 c1.2
 have p2 := mulB (show 0 ≤ f - a by omega) (show f - a ≤ 65535 by omega) d1.1 d1.2
 have p3 := mulB (show 0 ≤ m - b by omega) (show m - b ≤ 65535 by have := b1.1; omega) s1.1 s1.2
 have p4 := mulB (show 0 ≤ m by omega) (show m ≤ 65535 by omega) (show 0 ≤ den by omega) hden
 have p5 : 1 * 1 ≤ m * den := Int.mul_le_mul (by omega) k7 (by decide) (by omega)
 refine ⟨p, q, r, den, rfl, k2, hw.pl.2, k3, k4, k5, k6, k7, hden, p1.1, by omega, p2.1, by omega, p3.1, by omega, ?_, hT0, by omega, by omega⟩
 have q2 : (f - a) * d ≤ (f - a) * b := Int.mul_le_mul_of_nonneg_left db (by omega)
 have q3 : (m - b) * s ≤ (m - b) * a := Int.mul_le_mul_of_nonneg_left sa (by omega)
 have e1 : (m - b) * a = m * a - a * b := by grind
 have q4 : ((m - f) * c + (f - a) * d + (m - b) * s) * den ≤ ((m - f) * c + (f - a) * b + (m * a - a * b)) * den := Int.mul_le_mul_of_nonneg_right (by omega) (by omega)
 have e2 : ((m - f) * c + (f - a) * b + (m * a - a * b)) * den = ((m - f) * c + (f - a) * b + m * a) * den - a * b * den := by grind
 omega
theorem kHalf_le (h : KV k m s a f c d b) : 0 ≤ kHalf k m s a f c d b ∧ kHalf k m s a f c d b ≤ kAlpha m a f c b := by
 obtain ⟨p, q, r, den, ht, k2, k2', k3, k4, k5, k6, k7, hden, x1, x2, x3, x4, x5, x6, hT, hT0, y1, y2⟩ := kNum s1 a1 f1 c1 d1 b1 h
 have hm := h.2.2.2.1
 unfold kHalf kAlpha rootT
 rw [ht]
 simp only
 have xx := Int.mul_nonneg (show 0 ≤ (m - f) * c + (f - a) * d + (m - b) * s by omega) (show 0 ≤ den by omega)
 refine ⟨hv_nn (by omega) hT0 (by omega), hv_mono y1 (by omega) ?_⟩
 have e : ((m - f) * c + (f - a) * b + m * a) * (m * den) = ((m - f) * c + (f - a) * b + m * a) * den * m := by grind
 have := Int.mul_le_mul_of_nonneg_right hT (show 0 ≤ m by omega)
 have e2 : 2 * (((m - f) * c + (f - a) * b + m * a) * den) * m = 2 * (((m - f) * c + (f - a) * b + m * a) * den * m) := by grind
 omega
theorem kHalf_bd (h : KV k m s a f c d b) : 0 ≤ kHalf k m s a f c d b ∧ kHalf k m s a f c d b ≤ m := by
 have h1 := kHalf_le s1 a1 f1 c1 d1 b1 h
 have h2 := kAlpha_bd (m := m) a1 f1 c1 b1 ⟨h.2.2.2.1, h.2.2.2.2.1, h.2.2.2.2.2.1, h.2.2.2.2.2.2.1, h.2.2.2.2.2.2.2⟩
 omega
theorem kRound (h : KV k m s a f c d b) : ∃ p q r den : Int, termZ k s a d b = (0, p, q, r, den) ∧ F_wide_Add (F_wide_Mul ((m - f) * c + (f - a) * d + (m - b) * s) den).1 (F_wide_Mul ((m - f) * c + (f - a) * d + (m - b) * s) den).2 0 p = (hiW (((m - f) * c + (f - a) * d + (m - b) * s) * den + p), loW (((m - f) * c + (f - a) * d + (m - b) * s) * den + p), true) ∧
 F_r1_Add 0 p (F_r1_Mul ((m - f) * c + (f - a) * d + (m - b) * s) den).1 (F_r1_Mul ((m - f) * c + (f - a) * d + (m - b) * s) den).2 = (hiW (((m - f) * c + (f - a) * d + (m - b) * s) * den + p), loW (((m - f) * c + (f - a) * d + (m - b) * s) * den + p), true) ∧
 F_surd_Half (hiW (((m - f) * c + (f - a) * d + (m - b) * s) * den + p)) (loW (((m - f) * c + (f - a) * d + (m - b) * s) * den + p)) q r (m * den) = (kHalf k m s a f c d b, true) ∧
 F_r1_HalfExact (hiW (((m - f) * c + (f - a) * d + (m - b) * s) * den + p)) (loW (((m - f) * c + (f - a) * d + (m - b) * s) * den + p)) q r (m * den) = (kHalf k m s a f c d b, true) ∧
 IntKind.u64.wrap (m * den) = m * den ∧ 0 ≤ (m - f) * c ∧ (m - f) * c ≤ 4294836225 ∧ 0 ≤ (f - a) * d ∧ (f - a) * d ≤ 4294836225 ∧ 0 ≤ (m - b) * s ∧ (m - b) * s ≤ 4294836225 := by
 obtain ⟨p, q, r, den, ht, k2, k2', k3, k4, k5, k6, k7, hden, x1, x2, x3, x4, x5, x6, hT, hT0, y1, y2⟩ := kNum s1 a1 f1 c1 d1 b1 h
 have hb := kHalf_bd s1 a1 f1 c1 d1 b1 h
 have hm := h.2.2.2.1
 have xx := mulB (show 0 ≤ (m - f) * c + (f - a) * d + (m - b) * s by omega) (show (m - f) * c + (f - a) * d + (m - b) * s ≤ 12884508675 by omega) (show 0 ≤ den by omega) hden
 have e0 := hl0 k2 k2'
 unfold kHalf rootT at hb ⊢
 rw [ht] at hb ⊢
 simp only at hb ⊢
 have hh := halfN (N := ((m - f) * c + (f - a) * d + (m - b) * s) * den + p) (q := q) (r := r) (D := m * den) (by omega) (by omega) k3 (by omega) k5 (by omega) y1 y2 (by omega)
 refine ⟨p, q, r, den, rfl, ?_, ?_, hh.1, hh.2, u64_in (by omega) y2, x1, x2, x3, x4, x5, x6⟩
 ·have := pAdd (X := ((m - f) * c + (f - a) * d + (m - b) * s) * den) (Y := p) (by omega)
  rw [e0.1, e0.2] at this
  exact this
 ·have := qAdd (X := p) (Y := ((m - f) * c + (f - a) * d + (m - b) * s) * den) (by omega)
  rw [e0.1, e0.2, Int.add_comm p] at this
  exact this
theorem kColor (m1 : Is16 m) : F_knockout_Color k m s a f c d b = if KV k m s a f c d b then (kHalf k m s a f c d b, true) else (0, false) := by
 rw [F_knockout_Color_eq, bExact s1 a1 d1 b1]
 by_cases hb : (1 ≤ k ∧ k ≤ 12) ∧ s ≤ a ∧ d ≤ b
 ·rw [blendZ_pos hb]
  simp only [Bool.not_true, cond_false, Bool.cond_not, bif_ite, beq_dec]
  by_cases h : KV k m s a f c d b
  ·obtain ⟨p, q, r, den, ht, w1, -, w2, -, w3, x1, x2, x3, x4, x5, x6⟩ := kRound s1 a1 f1 c1 d1 b1 h
   have hbd := kHalf_bd s1 a1 f1 c1 d1 b1 h
   rw [if_pos h]
   have l1 := s1.1; have l2 := a1.1; have l3 := f1.1; have l4 := c1.1; have l5 := d1.1; have l6 := b1.1
   obtain ⟨-, -, -, hm, af, fm, bm, cm⟩ := h
   have e1 : ¬ a > f := by omega
   have e2 : ¬ f > m := by omega
   have e3 : ¬ b > m := by omega
   have e4 : ¬ c > m := by omega
   have es : F_knockout_sum (IntKind.u16.wrap (m - f)) c (IntKind.u16.wrap (f - a)) d (IntKind.u16.wrap (m - b)) s = (m - f) * c + (f - a) * d + (m - b) * s := by
    rw [F_knockout_sum_eq, u16_in (x := m - f) (by omega) (by have := f1.1; omega), u16_in (x := f - a) (by omega) (by have := a1.1; have := f1.2; omega), u16_in (x := m - b) (by omega) (by have := b1.1; omega), u64_in (x := (m - f) * c) x1 (by omega), u64_in (x := (f - a) * d) x3 (by omega), u64_in (x := (m - b) * s) x5 (by omega), u64_in (x := (m - f) * c + (f - a) * d) (by omega) (by omega), u64_in (by omega) (by omega)]
   rw [es, ht]
   simp only [w3, w1, w2, if_neg e1, if_neg e2, if_neg e3, if_neg e4, u16_in hbd.1 (show kHalf k m s a f c d b ≤ 65535 by omega)]
   rcases hm with rfl | rfl <;> simp
  ·rw [if_neg h]
   unfold KV at h
   repeat' split
   all_goals first | (exfalso; omega) | rfl
 ·rw [blendZ_neg hb, if_neg (fun h => hb ⟨h.1, h.2.1, h.2.2.1⟩)]
  rfl
theorem rColor : F_r6_KnockColor k m s a f c d b = if KV k m s a f c d b then (kHalf k m s a f c d b, true) else (0, false) := by
 rw [F_r6_KnockColor_eq, rIsMode, full_dec, rBlend s1 a1 d1 b1]
 simp only [Bool.cond_not, bif_ite]
 by_cases h : KV k m s a f c d b
 ·obtain ⟨p, q, r, den, ht, -, w1, -, w2, w3, x1, x2, x3, x4, x5, x6⟩ := kRound s1 a1 f1 c1 d1 b1 h
  have hbd := kHalf_bd s1 a1 f1 c1 d1 b1 h
  rw [if_pos h]
  have l1 := s1.1; have l2 := a1.1; have l3 := f1.1; have l4 := c1.1; have l5 := d1.1; have l6 := b1.1
  obtain ⟨hk, sa, db, hm, af, fm, bm, cm⟩ := h
  have e1 : ¬ a > f := by omega
  have e2 : ¬ f > m := by omega
  have e3 : ¬ b > m := by omega
  have e4 : ¬ c > m := by omega
  have e5 : ¬ s > a := by omega
  have e6 : ¬ d > b := by omega
  rw [blendZ_pos ⟨hk, sa, db⟩, ht, u64_in (x := m - f) (by omega) (by omega), u64_in (x := f - a) (by omega) (by have := f1.2; omega), u64_in (x := m - b) (by omega) (by omega), u64_in (x := (m - f) * c) x1 (by omega), u64_in (x := (f - a) * d) x3 (by omega), u64_in (x := (m - b) * s) x5 (by omega), u64_in (x := (m - f) * c + (f - a) * d) (by omega) (by omega), u64_in (x := (m - f) * c + (f - a) * d + (m - b) * s) (by omega) (by omega)]
  simp only [w3, w1, w2, if_neg e1, if_neg e2, if_neg e3, if_neg e4, if_neg e5, if_neg e6, if_pos hk, if_pos hm, u16_in hbd.1 (show kHalf k m s a f c d b ≤ 65535 by omega)]
 ·rw [if_neg h]
  unfold KV at h
  repeat' split
  all_goals first | (exfalso; omega) | rfl
end
def KA (m a f acc b : Int) : Prop := (m = 255 ∨ m = 65535) ∧ a ≤ f ∧ f ≤ m ∧ b ≤ m ∧ acc ≤ m
instance (m a f acc b : Int) : Decidable (KA m a f acc b) := by unfold KA; infer_instance
section
variable {m a f acc b : Int} (a1 : Is16 a) (f1 : Is16 f) (c1 : Is16 acc) (b1 : Is16 b)
include a1 f1 c1 b1
theorem kAl (m1 : Is16 m) : F_knockout_Alpha m a f acc b = if KA m a f acc b then (kAlpha m a f acc b, true) else (0, false) := by
 rw [F_knockout_Alpha_eq]
 simp only [Bool.cond_not, bif_ite, beq_dec]
 by_cases h : KA m a f acc b
 ·have x := kAlpha_num a1 f1 c1 b1 h
  have hbd := kAlpha_bd a1 f1 c1 b1 h
  rw [if_pos h]
  have l2 := a1.1; have l3 := f1.1; have l4 := c1.1; have l6 := b1.1
  obtain ⟨hm, af, fm, bm, cm⟩ := h
  have e1 : ¬ a > f := by omega
  have e2 : ¬ f > m := by omega
  have e3 : ¬ b > m := by omega
  have e4 : ¬ acc > m := by omega
  have es : F_knockout_sum (IntKind.u16.wrap (m - f)) acc (IntKind.u16.wrap (f - a)) b m a = (m - f) * acc + (f - a) * b + m * a := by
   rw [F_knockout_sum_eq, u16_in (x := m - f) (by omega) (by have := f1.1; omega), u16_in (x := f - a) (by omega) (by have := a1.1; have := f1.2; omega), u64_in (x := (m - f) * acc) x.1 (by omega), u64_in (x := (f - a) * b) x.2.2.1 (by omega), u64_in (x := m * a) x.2.2.2.2.1 (by omega), u64_in (x := (m - f) * acc + (f - a) * b) (by omega) (by omega), u64_in (by omega) (by omega)]
  rw [es, pHalf (by omega) (by omega) (by omega) (by omega)]
  unfold kAlpha at hbd ⊢
  simp only [if_neg e1, if_neg e2, if_neg e3, if_neg e4, u16_in hbd.1 (show hv ((m - f) * acc + (f - a) * b + m * a) 0 m ≤ 65535 by omega)]
  rcases hm with rfl | rfl <;> simp
 ·rw [if_neg h]
  unfold KA at h
  repeat' split
  all_goals first | (exfalso; omega) | rfl
theorem rAl : F_r6_KnockAlpha m a f acc b = if KA m a f acc b then (kAlpha m a f acc b, true) else (0, false) := by
 rw [F_r6_KnockAlpha_eq, full_dec]
 simp only [Bool.cond_not, bif_ite]
 by_cases h : KA m a f acc b
 ·have x := kAlpha_num a1 f1 c1 b1 h
  have hbd := kAlpha_bd a1 f1 c1 b1 h
  rw [if_pos h]
  have l2 := a1.1; have l3 := f1.1; have l4 := c1.1; have l6 := b1.1
  obtain ⟨hm, af, fm, bm, cm⟩ := h
  have e1 : ¬ a > f := by omega
  have e2 : ¬ f > m := by omega
  have e3 : ¬ b > m := by omega
  have e4 : ¬ acc > m := by omega
  rw [u64_in (x := m - f) (by omega) (by omega), u64_in (x := f - a) (by omega) (by have := f1.2; omega), u64_in (x := (m - f) * acc) x.1 (by omega), u64_in (x := (f - a) * b) x.2.2.1 (by omega), u64_in (x := m * a) x.2.2.2.2.1 (by omega), u64_in (x := (m - f) * acc + (f - a) * b) (by omega) (by omega), u64_in (x := (m - f) * acc + (f - a) * b + m * a) (by omega) (by omega), rHalf (by omega) (by omega) (by omega) (by omega)]
  unfold kAlpha at hbd ⊢
  simp only [if_neg e1, if_neg e2, if_neg e3, if_neg e4, if_pos hm, u16_in hbd.1 (show hv ((m - f) * acc + (f - a) * b + m * a) 0 m ≤ 65535 by omega)]
 ·rw [if_neg h]
  unfold KA at h
  repeat' split
  all_goals first | (exfalso; omega) | rfl
end
theorem kOwn (m a f own : Int) : F_knockout_Own m a f own = F_knockout_Alpha m a f own 0 := by rw [F_knockout_Own_eq]
theorem rOwn (m a f own : Int) : F_r6_KnockOwn m a f own = F_r6_KnockAlpha m a f own 0 := by rw [F_r6_KnockOwn_eq]
end Go.Proofs.YtdioaiepkhepaaaGreatDoor
