/- The statements of chapter 08, and those of chapter 10 that reach the operators, as plain laws. -/
import Derived.Test.YtfjhhadmncjdiaaGreatDoorMix
import Derived.Test.YtfjhhadmncjdiaaGreatDoorLaw10
namespace Go.Proofs.YtfjhhadmncjdiaaGreatDoor
open Go.RowKit

theorem colorsM {o k m s a d b : Int} (m1 : Is16 m) (s1 : Is16 s) (a1 : Is16 a) (d1 : Is16 d) (b1 : Is16 b) : F_mix_Color o k m s a d b = F_ref06_Color o k m s a d b := by
  rw [pColor m1 s1 a1 d1 b1, rColorM m1 s1 a1 d1 b1]
theorem valuesM {o k m s a d b : Int} (m1 : Is16 m) (s1 : Is16 s) (a1 : Is16 a) (d1 : Is16 d) (b1 : Is16 b) : F_mix_Value o k m s a d b = F_ref06_Value o k m s a d b := by
  rw [pValue m1 s1 a1 d1 b1, rValue m1 s1 a1 d1 b1]
theorem n16 {x : Int} (h : 0 ≤ x ∧ x ≤ 65535) : Is16 x := h
/-- A whole term: the composite without a root. -/
theorem mixH_frac {o k m s a d b p den : Int} (ht : termZ k s a d b = fracZ p den) : mixH o k m s a d b = hv (((m - b) * s * den + p) * (facZ o a b m).1 + d * m * den * (facZ o a b m).2) 0 (m * m * den) := by
  unfold mixH mixN mixQ mixD
  rw [ht]
  simp only [fracZ]
  rw [show 4 * ((facZ o a b m).1 * 0 * ((facZ o a b m).1 * 0) * 0) = 0 by simp, isq_0]
section
variable {o k m s a d b : Int} (hm : m = 255 ∨ m = 65535) (hs : 0 ≤ s ∧ s ≤ a ∧ a ≤ m) (hd : 0 ≤ d ∧ d ≤ b ∧ b ≤ m) (ho : 1 ≤ o ∧ o ≤ 12) (hk : 1 ≤ k ∧ k ≤ 12)
include hm hs hd ho hk
theorem mvOf : MV o k m s a d b := ⟨ho, hk, hs.2.1, hd.2.1, hs.2.2, hd.2.2, hm⟩
theorem colorV : F_mix_Color o k m s a d b = (mixH o k m s a d b, true) ∧ 0 ≤ mixH o k m s a d b ∧ mixH o k m s a d b ≤ alphaZ o a b m := by
  have m1 : Is16 m := ⟨by omega, by omega⟩
  have s1 : Is16 s := ⟨by omega, by omega⟩
  have a1 : Is16 a := ⟨by omega, by omega⟩
  have d1 : Is16 d := ⟨by omega, by omega⟩
  have b1 : Is16 b := ⟨by omega, by omega⟩
  have h := mvOf hm hs hd ho hk
  rw [pColor m1 s1 a1 d1 b1, if_pos h]
  exact ⟨rfl, mixH_le m1 s1 a1 d1 b1 h⟩
end
theorem alphaV {o a b m : Int} (hm : m = 255 ∨ m = 65535) (ha : 0 ≤ a ∧ a ≤ m) (hb : 0 ≤ b ∧ b ≤ m) (ho : 1 ≤ o ∧ o ≤ 12) : F_operator_Alpha o a b m = alphaZ o a b m ∧ 0 ≤ alphaZ o a b m ∧ alphaZ o a b m ≤ m :=
  pAlpha (o := o) (a := a) (b := b) ⟨by omega, by omega⟩ ⟨by omega, by omega⟩ ⟨by omega, by omega⟩ (by omega) ⟨ho, by omega, by omega⟩

/-! MixNormalIsTheClassic -/
theorem hv_add {P T d n : Int} (hd : 1 ≤ d) : hv (P + n * d) T d = hv P T d + n := by
  have h := hv_spec (P := P) (T := T) hd
  have e1 : 2 * d * (hv P T d + n) = 2 * d * hv P T d + 2 * (n * d) := by grind
  exact hv_uq (by omega) (by omega)
theorem hv_scale0 {P d k : Int} (hd : 1 ≤ d) (hk : 1 ≤ k) : hv (P * k) 0 (d * k) = hv P 0 d := by
  have h := hv_scale (P := P) (S := 0) (Int.le_refl 0) hd hk
  rw [show 4 * (k * k * 0) = 0 by simp, show (4 * 0 : Int) = 0 by decide, isq_0] at h
  exact h

/-! MixIgnoresModeWithoutOverlap -/
theorem mixH_t0 {o k m s a d b den : Int} (hm : 1 ≤ m) (ht : termZ k s a d b = (0, 0, 0, 0, den)) (hden : 1 ≤ den) : mixH o k m s a d b = hv ((m - b) * s * (facZ o a b m).1 + d * m * (facZ o a b m).2) 0 (m * m) := by
  have mm : 1 * 1 ≤ m * m := Int.mul_le_mul hm hm (by decide) (by omega)
  rw [mixH_frac (p := 0) (den := den) ht]
  have e : ((m - b) * s * den + 0) * (facZ o a b m).1 + d * m * den * (facZ o a b m).2 = ((m - b) * s * (facZ o a b m).1 + d * m * (facZ o a b m).2) * den := by grind
  rw [e, hv_scale0 (by omega) hden]

/-! MixOfOpaqueColours -/
section
variable {k m s d : Int} (hm : m = 255 ∨ m = 65535) (hs : 0 ≤ s ∧ s ≤ m) (hd : 0 ≤ d ∧ d ≤ m) (hk : 1 ≤ k ∧ k ≤ 12)
include hm hs hd hk
theorem opaqueD {o : Int} (ho : o = 3 ∨ o = 5 ∨ o = 7 ∨ o = 11) : F_mix_Color o k m s m d m = (d, true) := by
  have cs : CA s m := ⟨hs.1, hs.2, by omega⟩
  have cd : CA d m := ⟨hd.1, hd.2, by omega⟩
  have m0 : 1 ≤ m := by omega
  have hr := term_InR cs cd hk.1 hk.2
  rw [(colorV hm ⟨hs.1, hs.2, Int.le_refl m⟩ ⟨hd.1, hd.2, Int.le_refl m⟩ (by omega) hk).1]
  have hf : facZ o m m m = (0, m) := by
    rcases ho with rfl | rfl | rfl | rfl <;> simp [facZ]
  have hden := hr.den
  unfold mixH mixN mixQ mixD
  rw [hf]
  generalize termZ k s m d m = t at *
  obtain ⟨ph, p, q, r, den⟩ := t
  simp only at hden ⊢
  have mm : 1 * 1 ≤ m * m := Int.mul_le_mul m0 m0 (by decide) (by omega)
  have dm : 1 * 1 ≤ m * m * den := Int.mul_le_mul (by omega) hden (by decide) (by omega)
  have e1 : ((m - m) * s * den + p) * 0 + d * m * den * m = d * (m * m * den) := by grind
  have e2 : 4 * (0 * q * (0 * q) * r) = 0 := by simp
  rw [e1, e2, isq_0, hv_exact (by omega)]
end

/-! Chapter 10: the order of the samples; the first element. -/
section
variable {k m s a f c d b : Int} (hm : m = 255 ∨ m = 65535) (hs : 0 ≤ s ∧ s ≤ a ∧ a ≤ f ∧ f ≤ m) (hd : 0 ≤ d ∧ d ≤ b ∧ b ≤ m) (hc : 0 ≤ c ∧ c ≤ m)
include hm hs hd hc
end
section
variable {m a f c b : Int} (hm : m = 255 ∨ m = 65535) (hs : 0 ≤ a ∧ a ≤ f ∧ f ≤ m) (hb : 0 ≤ b ∧ b ≤ m) (hc : 0 ≤ c ∧ c ≤ m)
include hm hs hb hc
end
theorem kAlpha_mono {m a f c c' b b' : Int} (hm : 1 ≤ m) (hf : f ≤ m) (haf : a ≤ f) (hc : c ≤ c') (hb : b ≤ b') : kAlpha m a f c b ≤ kAlpha m a f c' b' := by
  have p1 : (m - f) * c ≤ (m - f) * c' := Int.mul_le_mul_of_nonneg_left hc (by omega)
  have p2 : (f - a) * b ≤ (f - a) * b' := Int.mul_le_mul_of_nonneg_left hb (by omega)
  unfold kAlpha
  refine hv_mono hm hm ?_
  have : (2 * ((m - f) * c + (f - a) * b + m * a) + 0) * m ≤ (2 * ((m - f) * c' + (f - a) * b' + m * a)) * m := Int.mul_le_mul_of_nonneg_right (by omega) (by omega)
  have e : (2 * ((m - f) * c' + (f - a) * b' + m * a)) * m = 2 * (((m - f) * c' + (f - a) * b' + m * a) * m) := Int.mul_assoc _ _ _
  omega
/-- The own alpha is at most the union of the shapes. -/
theorem own_le_union {m a f c g : Int} (hm : 1 ≤ m) (haf : a ≤ f) (hf : f ≤ m) (hc : c ≤ g) : kAlpha m a f c 0 ≤ hv (m * f + (m - f) * g) 0 m := by
  have p1 : (m - f) * c ≤ (m - f) * g := Int.mul_le_mul_of_nonneg_left hc (by omega)
  have p2 : m * a ≤ m * f := Int.mul_le_mul_of_nonneg_left haf (by omega)
  unfold kAlpha
  refine hv_mono hm hm ?_
  have : (2 * ((m - f) * c + (f - a) * 0 + m * a) + 0) * m ≤ (2 * (m * f + (m - f) * g)) * m := Int.mul_le_mul_of_nonneg_right (by rw [Int.mul_zero]; omega) (by omega)
  have e : (2 * (m * f + (m - f) * g)) * m = 2 * ((m * f + (m - f) * g) * m) := Int.mul_assoc _ _ _
  omega

/-! KnockoutOfTheFirst -/
theorem kFirst {k m s a f d b : Int} (hk : 1 ≤ k ∧ k ≤ 12) (hm : 1 ≤ m) (hs : CA s a) (hd : CA d b) : kHalf k m s a f d d b = mixH 4 k m s a d b := by
  have hr := term_InR hs hd hk.1 hk.2
  have hf : facZ 4 a b m = (m, m - a) := rfl
  have hden := hr.den
  have hq := Int.mul_nonneg (Int.mul_nonneg hr.q0 hr.q0) hr.r0
  unfold kHalf mixH mixN mixQ mixD rootT
  rw [hf]
  generalize termZ k s a d b = t at *
  obtain ⟨ph, p, q, r, den⟩ := t
  simp only at hden hq ⊢
  have dm : 1 * 1 ≤ m * den := Int.mul_le_mul hm hden (by decide) (by omega)
  have e1 : ((m - b) * s * den + p) * m + d * m * den * (m - a) = (((m - f) * d + (f - a) * d + (m - b) * s) * den + p) * m := by grind
  have e2 : m * q * (m * q) * r = m * m * (q * q * r) := by grind
  have e3 : m * m * den = m * den * m := by grind
  rw [e1, e2, e3, hv_scale hq (by omega) hm]
end Go.Proofs.YtfjhhadmncjdiaaGreatDoor
