/- Operators and the composite, as whole numbers: the program's and the reference's are one. -/
import Derived.Test.YtdioaiepkhepaaaGreatDoorMath10
import Derived.Test.YtdioaiepkhepaaaGreatDoorSm08
namespace Go.Proofs.YtdioaiepkhepaaaGreatDoor
open Go.RowKit
theorem ops12 {o : Int} (h : 1 ≤ o ∧ o ≤ 12) : o = 1 ∨ o = 2 ∨ o = 3 ∨ o = 4 ∨ o = 5 ∨ o = 6 ∨ o = 7 ∨ o = 8 ∨ o = 9 ∨ o = 10 ∨ o = 11 ∨ o = 12 := by omega
def facZ (o a b m : Int) : Int × Int :=
 if o = 2 then (m, 0) else if o = 3 then (0, m) else if o = 4 then (m, m - a) else if o = 5 then (m - b, m) else if o = 6 then (b, 0) else if o = 7 then (0, a) else if o = 8 then (m - b, 0)
 else if o = 9 then (0, m - a) else if o = 10 then (b, m - a) else if o = 11 then (m - b, a) else if o = 12 then (m - b, m - a) else (0, 0)
def FV (o a b m : Int) : Prop := (1 ≤ o ∧ o ≤ 12) ∧ a ≤ m ∧ b ≤ m
instance (o a b m : Int) : Decidable (FV o a b m) := by unfold FV; infer_instance
section
variable {o a b m : Int} (a1 : Is16 a) (b1 : Is16 b) (m1 : Is16 m)
include a1 b1 m1
theorem pFactors : F_operator_Factors o a b m = if FV o a b m then ((facZ o a b m).1, (facZ o a b m).2, true) else (0, 0, false) := by
 have ⟨a0, a2⟩ := a1
 have ⟨b0, b2⟩ := b1
 have ⟨m0, m2⟩ := m1
 rw [F_operator_Factors_eq]
 by_cases ho : 1 ≤ o ∧ o ≤ 12
 ·by_cases ha : a ≤ m
  ·by_cases hb : b ≤ m
   ·rw [if_pos ⟨ho, ha, hb⟩]
    have e1 : ¬ a > m := by omega
    have e2 : ¬ b > m := by omega
    have w1 := u16_in (x := m - a) (by omega) (by omega)
    have w2 := u16_in (x := m - b) (by omega) (by omega)
    simp only [decide_eq_false e1, decide_eq_false e2, cond_false, F_operator_factor_eq, w1, w2]
    rcases ops12 ho with rfl | rfl | rfl | rfl | rfl | rfl | rfl | rfl | rfl | rfl | rfl | rfl <;> rfl
   ·rw [if_neg (fun h => hb h.2.2)]
    have e1 : ¬ a > m := by omega
    have e2 : b > m := by omega
    simp only [decide_eq_false e1, decide_eq_true e2, cond_false, cond_true]
    cases (!(F_operator_find o).2.2.2.2) <;> rfl
  ·rw [if_neg (fun h => ha h.2.1)]
   have e1 : a > m := by omega
   simp only [decide_eq_true e1, cond_true]
   cases (!(F_operator_find o).2.2.2.2) <;> rfl
 ·rw [if_neg (fun h => ho h.1)]
  have : F_operator_find o = (⟨#[]⟩, 0, 0, 0, false) := if_neg ho
  rw [this]
  rfl
theorem facZ_bd (h : FV o a b m) : 0 ≤ (facZ o a b m).1 ∧ (facZ o a b m).1 ≤ m ∧ 0 ≤ (facZ o a b m).2 ∧ (facZ o a b m).2 ≤ m := by
 have ⟨a0, a2⟩ := a1
 have ⟨b0, b2⟩ := b1
 have ⟨m0, m2⟩ := m1
 obtain ⟨ho, ha, hb⟩ := h
 unfold facZ
 rcases ops12 ho with rfl | rfl | rfl | rfl | rfl | rfl | rfl | rfl | rfl | rfl | rfl | rfl
 all_goals (simp only [reduceIte, Int.reduceEq]; omega)
theorem facZ_sum (h : FV o a b m) : 0 ≤ (facZ o a b m).1 * a ∧ 0 ≤ (facZ o a b m).2 * b ∧ (facZ o a b m).1 * a + (facZ o a b m).2 * b ≤ m * m := by
 have hf := facZ_bd a1 b1 m1 h
 have ⟨a0, a2⟩ := a1
 have ⟨b0, b2⟩ := b1
 have ⟨m0, m2⟩ := m1
 obtain ⟨ho, ha, hb⟩ := h
 refine ⟨Int.mul_nonneg hf.1 a0, Int.mul_nonneg hf.2.2.1 b0, ?_⟩
 have p1 := Int.mul_nonneg (show 0 ≤ m - a by omega) (show 0 ≤ m - b by omega)
 have p2 := Int.mul_nonneg a0 b0
 have p3 := Int.mul_nonneg (show 0 ≤ m - a by omega) m0
 have p4 := Int.mul_nonneg (show 0 ≤ m - b by omega) m0
 have p5 := Int.mul_nonneg (show 0 ≤ m - a by omega) b0
 have p6 := Int.mul_nonneg (show 0 ≤ m - b by omega) a0
 have p7 := Int.mul_nonneg m0 m0
 have e1 : (m - a) * (m - b) = m * m - m * b - m * a + a * b := by grind
 have e2 : (m - a) * m = m * m - m * a := by grind
 have e3 : (m - b) * m = m * m - m * b := by grind
 have e4 : (m - a) * b = m * b - a * b := by grind
 have e5 : (m - b) * a = m * a - a * b := by grind
 have e6 : b * a = a * b := Int.mul_comm _ _
 unfold facZ
 rcases ops12 ho with rfl | rfl | rfl | rfl | rfl | rfl | rfl | rfl | rfl | rfl | rfl | rfl
 all_goals (simp only [reduceIte, Int.reduceEq, Int.zero_mul]; omega)
end
theorem rIsOp (m : Int) : F_r6_IsOp m = decide (1 ≤ m ∧ m ≤ 12) := by
 rw [F_r6_IsOp_eq, F_r6_OpName_eq]
 by_cases h0 : m < 1
 ·have : ¬ (1 ≤ m ∧ m ≤ 12) := by omega
  simp [h0, this]
  rfl
 ·by_cases h1 : m ≥ 13
  ·have : ¬ (1 ≤ m ∧ m ≤ 12) := by omega
   simp [h0, h1, this]
   rfl
  ·have : 1 ≤ m ∧ m ≤ 12 := by omega
   rw [decide_eq_true this]
   rcases ops12 this with rfl | rfl | rfl | rfl | rfl | rfl | rfl | rfl | rfl | rfl | rfl | rfl <;> rfl
theorem rFactors {o a b m : Int} (a1 : Is16 a) (b1 : Is16 b) (m1 : Is16 m) : F_r6_Factors o a b m = if FV o a b m then ((facZ o a b m).1, (facZ o a b m).2, true) else (0, 0, false) := by
 have ⟨a0, a2⟩ := a1
 have ⟨b0, b2⟩ := b1
 have ⟨m0, m2⟩ := m1
 rw [F_r6_Factors_eq, rIsOp]
 by_cases h : FV o a b m
 ·rw [if_pos h]
  obtain ⟨ho, ha, hb⟩ := h
  have e1 : ¬ a > m := by omega
  have e2 : ¬ b > m := by omega
  have w1 := u16_in (x := m - a) (by omega) (by omega)
  have w2 := u16_in (x := m - b) (by omega) (by omega)
  simp only [decide_eq_false e1, decide_eq_false e2, decide_eq_true ho, Bool.not_true, cond_false, w1, w2]
  rcases ops12 ho with rfl | rfl | rfl | rfl | rfl | rfl | rfl | rfl | rfl | rfl | rfl | rfl <;> rfl
 ·rw [if_neg h]
  simp only [Bool.cond_not, bif_ite]
  unfold FV at h
  by_cases ho : 1 ≤ o ∧ o ≤ 12
  ·by_cases ha : a > m
   ·simp only [if_pos ho, if_pos ha]
   ·have hb : b > m := by omega
    simp only [if_pos ho, if_neg ha, if_pos hb]
  ·simp only [if_neg ho]
def alphaZ (o a b m : Int) : Int := hv ((facZ o a b m).1 * a + (facZ o a b m).2 * b) 0 m
def shapeZ (o f g m : Int) : Int :=
 if o = 2 ∨ o = 8 ∨ o = 11 then f else if o = 3 ∨ o = 9 ∨ o = 10 then g else if o = 4 ∨ o = 5 ∨ o = 12 then hv (m * f + (m - f) * g) 0 m else if o = 6 ∨ o = 7 then hv (f * g) 0 m else 0
theorem union_bd {a b m : Int} (ha : a ≤ m) (hb : b ≤ m) : m * a + (m - a) * b ≤ m * m := by
 have p1 := Int.mul_nonneg (show 0 ≤ m - a by omega) (show 0 ≤ m - b by omega)
 have e1 : (m - a) * (m - b) = m * m - m * a - (m - a) * b := by grind
 omega
theorem prod_bd {a b m : Int} (a0 : 0 ≤ a) (b0 : 0 ≤ b) (ha : a ≤ m) (hb : b ≤ m) : a * b + 0 * 0 ≤ m * m := by
 have := mulB a0 ha b0 hb
 omega
theorem pSum {x p y q m : Int} (x1 : Is16 x) (p1 : Is16 p) (y1 : Is16 y) (q1 : Is16 q) (m0 : 1 ≤ m) (m2 : m ≤ 65535) (h : x * p + y * q ≤ m * m) : F_operator_sum x p y q m = hv (x * p + y * q) 0 m ∧ 0 ≤ hv (x * p + y * q) 0 m ∧ hv (x * p + y * q) 0 m ≤ m := by
 have b1 := mulB x1.1 x1.2 p1.1 p1.2
 have b2 := mulB y1.1 y1.2 q1.1 q1.2
 have hn : 0 ≤ hv (x * p + y * q) 0 m := hv_nn (by omega) (Int.le_refl 0) m0
 have hl : hv (x * p + y * q) 0 m ≤ m := hv_le m0 (by
  have : 2 * m * m = 2 * (m * m) := Int.mul_assoc _ _ _
  omega)
 rw [F_operator_sum_eq, u64_in (x := x * p) b1.1 (by omega), u64_in (x := y * q) b2.1 (by omega), u64_in (x := x * p + y * q) (by omega) (by omega), pHalf (by omega) (by omega) m0 (by omega)]
 exact ⟨u16_in hn (by omega), hn, hl⟩
section
variable {o a b m : Int} (a1 : Is16 a) (b1 : Is16 b) (m1 : Is16 m) (m0 : 1 ≤ m)
include a1 b1 m1 m0
theorem pAlpha (h : FV o a b m) : F_operator_Alpha o a b m = alphaZ o a b m ∧ 0 ≤ alphaZ o a b m ∧ alphaZ o a b m ≤ m := by
 have hf := facZ_bd a1 b1 m1 h
 have hs := facZ_sum a1 b1 m1 h
 have m2 := m1.2
 have := pSum (x := (facZ o a b m).1) (p := a) (y := (facZ o a b m).2) (q := b) ⟨hf.1, by omega⟩ a1 ⟨hf.2.2.1, by omega⟩ b1 m0 m1.2 hs.2.2
 rw [F_operator_Alpha_eq, pFactors a1 b1 m1, if_pos h]
 exact this
theorem pShape (h : FV o a b m) : F_operator_Shape o a b m = shapeZ o a b m := by
 have ⟨a0, a2⟩ := a1
 have ⟨b0, b2⟩ := b1
 obtain ⟨ho, ha, hb⟩ := h
 have e1 : ¬ a > m := by omega
 have e2 : ¬ b > m := by omega
 have e3 : (m == 0) = false := by simp; omega
 have w1 := u16_in (x := m - a) (by omega) (by have := m1.2; omega)
 have hu := pSum (x := m) (p := a) (y := m - a) (q := b) m1 a1 ⟨by omega, by have := m1.2; omega⟩ b1 m0 m1.2 (union_bd ha hb)
 have hp := pSum (x := a) (p := b) (y := 0) (q := 0) a1 b1 zero16 zero16 m0 m1.2 (prod_bd a1.1 b1.1 ha hb)
 have e4 : a * b + 0 * 0 = a * b := by omega
 rw [e4] at hp
 rw [F_operator_Shape_eq]
 simp only [decide_eq_false e1, decide_eq_false e2, e3, cond_false, w1, hu.1, hp.1]
 rcases ops12 ho with rfl | rfl | rfl | rfl | rfl | rfl | rfl | rfl | rfl | rfl | rfl | rfl <;> rfl
theorem shapeZ_bd (ha : a ≤ m) (hb : b ≤ m) : 0 ≤ shapeZ o a b m ∧ shapeZ o a b m ≤ m := by
 have ⟨a0, a2⟩ := a1
 have ⟨b0, b2⟩ := b1
 have hu := pSum (x := m) (p := a) (y := m - a) (q := b) m1 a1 ⟨by omega, by have := m1.2; omega⟩ b1 m0 m1.2 (union_bd ha hb)
 have hp := pSum (x := a) (p := b) (y := 0) (q := 0) a1 b1 zero16 zero16 m0 m1.2 (prod_bd a1.1 b1.1 ha hb)
 have e4 : a * b + 0 * 0 = a * b := by omega
 rw [e4] at hp
 unfold shapeZ
 repeat' split
 all_goals omega
end
def MV (o k m s a d b : Int) : Prop := (1 ≤ o ∧ o ≤ 12) ∧ (1 ≤ k ∧ k ≤ 12) ∧ s ≤ a ∧ d ≤ b ∧ a ≤ m ∧ b ≤ m ∧ (m = 255 ∨ m = 65535)
instance (o k m s a d b : Int) : Decidable (MV o k m s a d b) := by unfold MV; infer_instance
def mixN (o k m s a d b : Int) : Int := ((m - b) * s * (termZ k s a d b).2.2.2.2 + (termZ k s a d b).2.1) * (facZ o a b m).1 + d * m * (termZ k s a d b).2.2.2.2 * (facZ o a b m).2
def mixQ (o k m s a d b : Int) : Int := (facZ o a b m).1 * (termZ k s a d b).2.2.1
def mixD (k m s a d b : Int) : Int := m * m * (termZ k s a d b).2.2.2.2
noncomputable def mixH (o k m s a d b : Int) : Int := hv (mixN o k m s a d b) (isq (4 * (mixQ o k m s a d b * mixQ o k m s a d b * (termZ k s a d b).2.2.2.1))) (mixD k m s a d b)
section
variable {o k m s a d b : Int} (m1 : Is16 m) (s1 : Is16 s) (a1 : Is16 a) (d1 : Is16 d) (b1 : Is16 b)
include m1 s1 a1 d1 b1
theorem mixNum (h : MV o k m s a d b) : ∃ p q r den fa fb : Int, termZ k s a d b = (0, p, q, r, den) ∧ facZ o a b m = (fa, fb) ∧ 0 ≤ p ∧ 0 ≤ q ∧ q ≤ 65535 ∧ 0 ≤ r ∧ r ≤ 4294836225 ∧ 1 ≤ den ∧ den ≤ 4294836225 ∧ 0 ≤ fa ∧ fa ≤ 65535 ∧ 0 ≤ fb ∧ fb ≤ 65535 ∧
 0 ≤ (m - b) * s ∧ (m - b) * s ≤ 4294836225 ∧ 0 ≤ (m - b) * s * den ∧ (m - b) * s * den + p ≤ 18445618199572250625 ∧ p ≤ 18445618199572250625 ∧ 0 ≤ d * m ∧ d * m ≤ 4294836225 ∧ 0 ≤ d * m * den ∧ d * m * den ≤ 18445618199572250625 ∧
 0 ≤ fa * q ∧ fa * q ≤ 4294836225 ∧ 1 ≤ m * m * den ∧ m * m * den ≤ 18445618199572250625 ∧ 0 ≤ m * m ∧ m * m ≤ 4294836225 ∧
 2 * (((m - b) * s * den + p) * fa + d * m * den * fb) + isq (4 * (fa * q * (fa * q) * r)) ≤ 2 * (m * (fa * a + fb * b) * den) ∧ 0 ≤ isq (4 * (fa * q * (fa * q) * r)) := by
 have ⟨m0, m2⟩ := m1
 have ⟨s0, s2⟩ := s1
 have ⟨a0, a2⟩ := a1
 have ⟨d0, d2⟩ := d1
 have ⟨b0, b2⟩ := b1
 obtain ⟨ho, hk, sa, db, am, bm, hm⟩ := h
 have hs : CA s a := ⟨s0, sa, a2⟩
 have hd : CA d b := ⟨d0, db, b2⟩
 have hr := term_InR hs hd hk.1 hk.2
 have hden := term_den hs hd hk.1 hk.2
 have hf := facZ_bd a1 b1 m1 (o := o) ⟨ho, am, bm⟩
 generalize termZ k s a d b = t at *
 generalize facZ o a b m = f at *
 obtain ⟨ph, p, q, r, den⟩ := t
 obtain ⟨fa, fb⟩ := f
 obtain ⟨k1, k2, k3, k4, k5, k6, k7, k8, k9⟩ := hr
 simp only at k1 k2 k3 k4 k5 k6 k7 k8 k9 hden hf
 subst k1
 have p1 := mulB (show 0 ≤ m - b by omega) (show m - b ≤ 65535 by omega) s0 s2
 have p2 := mulB d0 d2 m0 m2
 have p3 := mulB m0 m2 m0 m2
 have p4 := mulB p2.1 p2.2 (show 0 ≤ den by omega) hden
 have p5 := mulB p3.1 p3.2 (show 0 ≤ den by omega) hden
 have p6 := mulB hf.1 (show fa ≤ 65535 by omega) k3 k4
 have p7 := Int.mul_nonneg p1.1 (show 0 ≤ den by omega)
 have p8 : 1 * 1 ≤ m * m := Int.mul_le_mul (by omega) (by omega) (by decide) (by omega)
 have p9 : 1 * 1 ≤ m * m * den := Int.mul_le_mul (by omega) k7 (by decide) (by omega)
 have q1 : (m - b) * s ≤ (m - b) * a := Int.mul_le_mul_of_nonneg_left sa (by omega)
 have q2 : (m - b) * s * den ≤ (m - b) * a * den := Int.mul_le_mul_of_nonneg_right q1 (by omega)
 have q3 : (m - b) * a * den + a * b * den = m * a * den := by grind
 have q4 := mulB m0 m2 a0 a2
 have q5 := mulB q4.1 q4.2 (show 0 ≤ den by omega) hden
 have yy : 0 ≤ fa * (a * b * den - p) := Int.mul_nonneg hf.1 (by omega)
 have k9' : fa * q * (fa * q) * r ≤ fa * (a * b * den - p) * (fa * (a * b * den - p)) := by
  have e1 : fa * q * (fa * q) * r = fa * fa * (q * q * r) := by grind
  have e2 : fa * (a * b * den - p) * (fa * (a * b * den - p)) = fa * fa * ((a * b * den - p) * (a * b * den - p)) := by grind
  rw [e1, e2]
  exact Int.mul_le_mul_of_nonneg_left k9 (Int.mul_nonneg hf.1 hf.1)
 have S0 : 0 ≤ fa * q * (fa * q) * r := Int.mul_nonneg (Int.mul_nonneg p6.1 p6.1) k5
 have T1 := isq4_le S0 yy k9'
 have T0 : 0 ≤ isq (4 * (fa * q * (fa * q) * r)) := isq_nn (by omega)
 refine ⟨p, q, r, den, fa, fb, rfl, rfl, k2, k3, k4, k5, k6, k7, hden, hf.1, by omega, hf.2.2.1, by omega, p1.1, by omega, p7, by omega, by omega, p2.1, by omega, p4.1, by omega, p6.1, by omega, by omega, by omega, p3.1, by omega, ?_, T0⟩
 have u1 : (m - b) * s * den * fa ≤ (m - b) * a * den * fa := Int.mul_le_mul_of_nonneg_right q2 hf.1
 have u2 : d * m * den * fb ≤ b * m * den * fb := Int.mul_le_mul_of_nonneg_right (Int.mul_le_mul_of_nonneg_right (Int.mul_le_mul_of_nonneg_right db m0) (by omega)) hf.2.2.1
 have e1 : ((m - b) * s * den + p) * fa = (m - b) * s * den * fa + p * fa := Int.add_mul _ _ _
 have e2 : fa * (a * b * den - p) = a * b * den * fa - p * fa := by grind
 have e3 : m * (fa * a + fb * b) * den = (m - b) * a * den * fa + a * b * den * fa + b * m * den * fb := by grind
 omega
theorem mixH_le (h : MV o k m s a d b) : 0 ≤ mixH o k m s a d b ∧ mixH o k m s a d b ≤ alphaZ o a b m := by
 obtain ⟨p, q, r, den, fa, fb, ht, hf, z1, z2, z3, z4, z5, z6, z7, f0, f1, f2, f3, x1, x2, x3, x4, x5, y1, y2, y3, y4, v1, v2, w1, w2, w3, w4, hT, hT0⟩ := mixNum m1 s1 a1 d1 b1 h
 have hm := h.2.2.2.2.2.2
 have n1 := Int.mul_nonneg (show 0 ≤ (m - b) * s * den + p by omega) f0
 have n2 := Int.mul_nonneg y3 f2
 unfold mixH alphaZ mixN mixQ mixD
 rw [ht, hf]
 simp only
 refine ⟨hv_nn (by omega) hT0 w1, hv_mono w1 (by omega) ?_⟩
 have := Int.mul_le_mul_of_nonneg_right hT (show 0 ≤ m by omega)
 have e : 2 * (m * (fa * a + fb * b) * den) * m = 2 * ((fa * a + fb * b) * (m * m * den)) := by grind
 omega
theorem mixH_bd (h : MV o k m s a d b) : 0 ≤ mixH o k m s a d b ∧ mixH o k m s a d b ≤ m := by
 have h1 := mixH_le m1 s1 a1 d1 b1 h
 have h2 := pAlpha (o := o) a1 b1 m1 (by have := h.2.2.2.2.2.2; omega) ⟨h.1, h.2.2.2.2.1, h.2.2.2.2.2.1⟩
 omega
def mixOut (o k m s a d b : Int) : Int × Int × Int × Int × Int × Bool := (hiW (mixN o k m s a d b), loW (mixN o k m s a d b), mixQ o k m s a d b, (termZ k s a d b).2.2.2.1, mixD k m s a d b, true)
theorem pValue : F_mix_Value o k m s a d b = if MV o k m s a d b then mixOut o k m s a d b else (0, 0, 0, 0, 0, false) := by
 have ⟨m0, m2⟩ := m1
 have ⟨s0, s2⟩ := s1
 have ⟨a0, a2⟩ := a1
 have ⟨d0, d2⟩ := d1
 have ⟨b0, b2⟩ := b1
 rw [F_mix_Value_eq, bExact s1 a1 d1 b1, pFactors a1 b1 m1]
 by_cases hb : (1 ≤ k ∧ k ≤ 12) ∧ s ≤ a ∧ d ≤ b
 ·by_cases hf : FV o a b m
  ·rw [blendZ_pos hb, if_pos hf]
   by_cases hm : m = 255 ∨ m = 65535
   ·have h : MV o k m s a d b := ⟨hf.1, hb.1, hb.2.1, hb.2.2, hf.2.1, hf.2.2, hm⟩
    obtain ⟨p, q, r, den, fa, fb, ht, hf, z1, z2, z3, z4, z5, z6, z7, f0, f1, f2, f3, x1, x2, x3, x4, x5, y1, y2, y3, y4, v1, v2, w1, w2, w3, w4, hT, hT0⟩ := mixNum m1 s1 a1 d1 b1 h
    rw [if_pos h]
    have bm := h.2.2.2.2.2.1
    have g1 := mulB (show 0 ≤ (m - b) * s * den + p by omega) x4 f0 f1
    have g2 := mulB y3 y4 f2 f3
    unfold mixOut mixN mixQ mixD
    rw [ht, hf]
    simp only [F_wide_Mul]
    rw [u16_in (x := m - b) (by omega) (by omega), u64_in (x := (m - b) * s) x1 (by omega), u64_in (x := (m - b) * s * den) x3 (by omega), u64_in (x := (m - b) * s * den + p) (by omega) (by omega), u64_in (x := d * m) y1 (by omega), u64_in (x := d * m * den) y3 (by omega), u64_in (x := fa * q) v1 (by omega), u64_in (x := m * m) w3 (by omega), u64_in (x := m * m * den) (by omega) (by omega), pAdd (X := ((m - b) * s * den + p) * fa) (Y := d * m * den * fb) (by omega)]
    have e1 : (m != 255) = !(m == 255) := rfl
    have e2 : (m != 65535) = !(m == 65535) := rfl
    simp only [Bool.not_true, cond_false, e1, e2, Bool.cond_not]
    rcases hm with rfl | rfl <;> rfl
   ·have e1 : (m != 255) = true := by simp; omega
    have e2 : (m != 65535) = true := by simp; omega
    rw [if_neg (fun h => hm h.2.2.2.2.2.2)]
    simp only [e1, e2, cond_true, Bool.not_true, cond_false]
  ·rw [if_neg hf, if_neg (fun h => hf ⟨h.1, h.2.2.2.2.1, h.2.2.2.2.2.1⟩)]
   rfl
 ·rw [blendZ_neg hb]
  by_cases hf : FV o a b m
  ·rw [if_pos hf, if_neg (fun h : MV o k m s a d b => hb ⟨h.2.1, h.2.2.1, h.2.2.2.1⟩)]; rfl
  ·rw [if_neg hf, if_neg (fun h : MV o k m s a d b => hb ⟨h.2.1, h.2.2.1, h.2.2.2.1⟩)]; rfl
theorem rValue : F_r6_Value o k m s a d b = if MV o k m s a d b then mixOut o k m s a d b else (0, 0, 0, 0, 0, false) := by
 have ⟨m0, m2⟩ := m1
 have ⟨s0, s2⟩ := s1
 have ⟨a0, a2⟩ := a1
 have ⟨d0, d2⟩ := d1
 have ⟨b0, b2⟩ := b1
 rw [F_r6_Value_eq, rBlend s1 a1 d1 b1, rFactors a1 b1 m1, full_dec]
 by_cases hb : (1 ≤ k ∧ k ≤ 12) ∧ s ≤ a ∧ d ≤ b
 ·by_cases hf : FV o a b m
  ·rw [blendZ_pos hb, if_pos hf]
   by_cases hm : m = 255 ∨ m = 65535
   ·have h : MV o k m s a d b := ⟨hf.1, hb.1, hb.2.1, hb.2.2, hf.2.1, hf.2.2, hm⟩
    obtain ⟨p, q, r, den, fa, fb, ht, hf, z1, z2, z3, z4, z5, z6, z7, f0, f1, f2, f3, x1, x2, x3, x4, x5, y1, y2, y3, y4, v1, v2, w1, w2, w3, w4, hT, hT0⟩ := mixNum m1 s1 a1 d1 b1 h
    rw [if_pos h, decide_eq_true hm]
    have bm := h.2.2.2.2.2.1
    have g1 := mulB x3 (show (m - b) * s * den ≤ 18445618199572250625 by omega) f0 f1
    have g2 := mulB y3 y4 f2 f3
    have g3 := mulB z1 x5 f0 f1
    have g4 := mulB f2 f3 d0 d2
    have e1 : (m - b) * s * fa * den = (m - b) * s * den * fa := by grind
    have e2 : fb * d * m * den = d * m * den * fb := by grind
    have e3 : p * fa + (m - b) * s * den * fa + d * m * den * fb = ((m - b) * s * den + p) * fa + d * m * den * fb := by grind
    have l0 : F_r1_MulSmall 0 p fa = (hiW (p * fa), loW (p * fa), true) := by
     unfold F_r1_MulSmall mul128
     rw [U0, if_pos (by rw [two128_eq]; omega)]
    unfold mixOut mixN mixQ mixD
    rw [ht, hf]
    simp only [Bool.not_true, cond_false]
    rw [u64_in (x := m - b) (by omega) (by omega), u64_in (x := (m - b) * s) x1 (by omega), u64_in (x := fb * d) g4.1 (by omega), u64_in (x := fa * q) v1 (by omega), u64_in (x := m * m) w3 (by omega), u64_in (x := m * m * den) (by omega) (by omega), l0,
     rWide (x := (m - b) * s) (y := fa) (z := den) (by rw [e1, two128_eq]; omega), rWide (x := fb * d) (y := m) (z := den) (by rw [e2, two128_eq]; omega), e1, e2, qAdd (X := p * fa) (Y := (m - b) * s * den * fa) (by omega), qAdd (X := p * fa + (m - b) * s * den * fa) (Y := d * m * den * fb) (by omega), e3]
   ·rw [if_neg (fun h => hm h.2.2.2.2.2.2), decide_eq_false hm]
    rfl
  ·rw [blendZ_pos hb, if_neg hf, if_neg (fun h => hf ⟨h.1, h.2.2.2.2.1, h.2.2.2.2.2.1⟩)]
   rfl
 ·rw [blendZ_neg hb, if_neg (fun h : MV o k m s a d b => hb ⟨h.2.1, h.2.2.1, h.2.2.2.1⟩)]
  rfl
theorem mixRound (h : MV o k m s a d b) : F_surd_Half (mixOut o k m s a d b).1 (mixOut o k m s a d b).2.1 (mixOut o k m s a d b).2.2.1 (mixOut o k m s a d b).2.2.2.1 (mixOut o k m s a d b).2.2.2.2.1 = (mixH o k m s a d b, true) ∧
 F_r1_HalfExact (mixOut o k m s a d b).1 (mixOut o k m s a d b).2.1 (mixOut o k m s a d b).2.2.1 (mixOut o k m s a d b).2.2.2.1 (mixOut o k m s a d b).2.2.2.2.1 = (mixH o k m s a d b, true) := by
 obtain ⟨p, q, r, den, fa, fb, ht, hf, z1, z2, z3, z4, z5, z6, z7, f0, f1, f2, f3, x1, x2, x3, x4, x5, y1, y2, y3, y4, v1, v2, w1, w2, w3, w4, hT, hT0⟩ := mixNum m1 s1 a1 d1 b1 h
 have hb := mixH_bd m1 s1 a1 d1 b1 h
 have g1 := mulB (show 0 ≤ (m - b) * s * den + p by omega) x4 f0 f1
 have g2 := mulB y3 y4 f2 f3
 have m2 := m1.2
 unfold mixH mixN mixQ mixD at hb
 unfold mixOut mixH mixN mixQ mixD
 rw [ht, hf] at hb ⊢
 simp only at hb ⊢
 exact halfN (by omega) (by omega) v1 (by omega) z4 (by omega) w1 (by omega) (by omega)
theorem pColor : F_mix_Color o k m s a d b = if MV o k m s a d b then (mixH o k m s a d b, true) else (0, false) := by
 rw [F_mix_Color_eq, pValue m1 s1 a1 d1 b1]
 by_cases h : MV o k m s a d b
 ·have hb := mixH_bd m1 s1 a1 d1 b1 h
  have m2 := m1.2
  have ht : (mixOut o k m s a d b).2.2.2.2.2 = true := rfl
  simp only [if_pos h, (mixRound m1 s1 a1 d1 b1 h).1, ht, Bool.not_true, cond_false]
  rw [u16_in hb.1 (by omega)]
 ·rw [if_neg h, if_neg h]
  rfl
theorem rColorM : F_r6_Color o k m s a d b = if MV o k m s a d b then (mixH o k m s a d b, true) else (0, false) := by
 rw [F_r6_Color_eq, rValue m1 s1 a1 d1 b1]
 by_cases h : MV o k m s a d b
 ·have hb := mixH_bd m1 s1 a1 d1 b1 h
  have m2 := m1.2
  have ht : (mixOut o k m s a d b).2.2.2.2.2 = true := rfl
  simp only [if_pos h, (mixRound m1 s1 a1 d1 b1 h).2, ht, Bool.not_true, cond_false]
  rw [u16_in hb.1 (by omega)]
 ·rw [if_neg h, if_neg h]
  rfl
end
end Go.Proofs.YtdioaiepkhepaaaGreatDoor
