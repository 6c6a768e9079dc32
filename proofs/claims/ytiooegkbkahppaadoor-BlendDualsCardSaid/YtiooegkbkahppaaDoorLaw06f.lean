/- The nearest integer in one formula; BlendNeutralColours and BlendDuals, as plain laws. -/
import Derived.Test.YtiooegkbkahppaaDoorLaw06e
namespace Go.Proofs.YtiooegkbkahppaaDoor
open Go.RowKit

/-- The nearest integer to (P + T / 2) / d, ties up. -/
def hv (P T d : Int) : Int := (2 * P + T + d) / (2 * d)
theorem ediv_uq {a b q : Int} (h1 : b * q ≤ a) (h2 : a < b * q + b) : a / b = q :=
  ((Int.ediv_emod_unique (r := a - b * q) (show 0 < b by omega)).2 ⟨by omega, by omega, by omega⟩).1
theorem isq4 {S : Int} (hS : 0 ≤ S) : 2 * isq S ≤ isq (4 * S) ∧ isq (4 * S) ≤ 2 * isq S + 1 := by
  obtain ⟨a0, a1, a2⟩ := isq_spec hS
  obtain ⟨b0, b1, b2⟩ := isq_spec (show 0 ≤ 4 * S by omega)
  constructor
  · rw [← sq_isq (by omega) (by omega)]
    have : 2 * isq S * (2 * isq S) = 4 * (isq S * isq S) := by grind
    omega
  · rcases Int.lt_or_le (2 * isq S + 1) (isq (4 * S)) with h | h
    · have h2 : (2 * isq S + 2) * (2 * isq S + 2) ≤ isq (4 * S) * isq (4 * S) := Int.mul_le_mul (by omega) (by omega) (by omega) b0
      have : (2 * isq S + 2) * (2 * isq S + 2) = 4 * ((isq S + 1) * (isq S + 1)) := by grind
      omega
    · exact h
theorem isq4_le {S Y : Int} (hS : 0 ≤ S) (hY : 0 ≤ Y) (h : S ≤ Y * Y) : isq (4 * S) ≤ 2 * Y := by
  obtain ⟨b0, b1, b2⟩ := isq_spec (show 0 ≤ 4 * S by omega)
  rw [← sq_le b0 (by omega)]
  have : 2 * Y * (2 * Y) = 4 * (Y * Y) := by grind
  omega
theorem isq_nn {S : Int} (hS : 0 ≤ S) : 0 ≤ isq S := (isq_spec hS).1
theorem isq_0 : isq 0 = 0 := isq_eq (by decide) (by decide) (by decide) (by decide)
theorem hv_le {P T d n : Int} (hd : 1 ≤ d) (h : 2 * P + T ≤ 2 * n * d) : hv P T d ≤ n := by
  have : hv P T d < n + 1 := Int.ediv_lt_of_lt_mul (by omega) (by
    have : (n + 1) * (2 * d) = 2 * n * d + 2 * d := by grind
    omega)
  omega
theorem hv_nn {P T d : Int} (hP : 0 ≤ P) (hT : 0 ≤ T) (hd : 1 ≤ d) : 0 ≤ hv P T d := Int.ediv_nonneg (by omega) (by omega)
theorem hv_spec {P T d : Int} (hd : 1 ≤ d) : 2 * d * hv P T d ≤ 2 * P + T + d ∧ 2 * P + T + d < 2 * d * hv P T d + 2 * d := by
  have h1 := Int.mul_ediv_add_emod (2 * P + T + d) (2 * d)
  have h2 := Int.emod_nonneg (2 * P + T + d) (b := 2 * d) (by omega)
  have h3 := Int.emod_lt_of_pos (2 * P + T + d) (b := 2 * d) (by omega)
  unfold hv
  omega
theorem hv_uq {P T d n : Int} (h1 : 2 * d * n ≤ 2 * P + T + d) (h2 : 2 * P + T + d < 2 * d * n + 2 * d) : hv P T d = n := ediv_uq h1 h2
theorem hv_exact {n d : Int} (hd : 1 ≤ d) : hv (n * d) 0 d = n := by
  have : 2 * d * n = 2 * (n * d) := by grind
  exact hv_uq (by omega) (by omega)
theorem haE_hv {P S d : Int} (hP : 0 ≤ P) (hS : 0 ≤ S) (hd : 1 ≤ d) (hb : hv P (isq (4 * S)) d < 9223372036854775808) : haE P S (4 * S) d = (hv P (isq (4 * S)) d, true) := by
  obtain ⟨q1, q2⟩ := isq4 hS
  have t0 := isq_nn hS
  have f0 : 0 ≤ (P + isq S) / d := Int.ediv_nonneg (by omega) (by omega)
  have h1 := Int.mul_ediv_add_emod (P + isq S) d
  have h2 := Int.emod_nonneg (P + isq S) (b := d) (by omega)
  have h3 := Int.emod_lt_of_pos (P + isq S) (b := d) (by omega)
  have hc := cmpE_le (P := 2 * P) (S := 4 * S) (d := d) (n := 2 * ((P + isq S) / d) + 1) (by omega) hd
  rw [Int.le_ediv_iff_mul_le (by omega)] at hc
  unfold haE flE
  generalize isq (4 * S) = T at *
  generalize (P + isq S) / d = f at *
  have e1 : (2 * f + 1) * d = 2 * (d * f) + d := by grind
  rw [e1] at hc
  by_cases h : 2 * (d * f) + d ≤ 2 * P + T
  · have e2 : 2 * d * (f + 1) = 2 * (d * f) + 2 * d := by grind
    have hf : hv P T d = f + 1 := hv_uq (by omega) (by omega)
    rw [hf] at hb ⊢
    have hlt : f < 9223372036854775808 := by omega
    simp only [if_pos hlt, if_true, if_pos (hc.2 h), if_pos hb]
  · have e2 : 2 * d * f = 2 * (d * f) := by grind
    have hf : hv P T d = f := hv_uq (by omega) (by omega)
    rw [hf] at hb ⊢
    simp only [if_pos hb, if_true, if_neg (fun k => h (hc.1 k))]
/-- The program's rounding: a valid number's nearest integer. -/
theorem sHalf_hv {ph pl q r d : Int} (hp : IsW ph) (hl : IsW pl) (hq : IsW q) (hr : IsW r) (hd : IsW d) (hv1 : VE ph q r d) (hb : hv (U ph pl) (isq (4 * (q * q * r))) d < 9223372036854775808) : F_surd_Half ph pl q r d = (hv (U ph pl) (isq (4 * (q * q * r))) d, true) := by
  have hQ := (hv1.isQ hq hr).bd
  rw [sHalf hp hl hq hr hd, if_pos hv1, four_sq, haE_hv (isU hp hl).nn hQ.2.2.1 hv1.2.2.2 hb]

theorem term_den {m s a d b : Int} (hs : CA s a) (hd : CA d b) (h0 : 1 ≤ m) (h1 : m ≤ 12) : (termZ m s a d b).2.2.2.2 ≤ 4294836225 := by
  obtain ⟨s0, sa, a1⟩ := hs
  obtain ⟨d0, db, b1⟩ := hd
  have bb := mulB (show 0 ≤ b by omega) b1 (show 0 ≤ b by omega) b1
  rcases modes h0 h1 with rfl | rfl | rfl | rfl | rfl | rfl | rfl | rfl | rfl | rfl | rfl | rfl
  case inr.inr.inr.inr.inr.inr.inl =>
    show (dodgeZ s a d b).2.2.2.2 ≤ 4294836225
    unfold dodgeZ fracZ
    split
    · exact (by decide : (1 : Int) ≤ 4294836225)
    · split
      · exact (by decide : (1 : Int) ≤ 4294836225)
      · show a - s ≤ 4294836225; omega
  case inr.inr.inr.inr.inr.inr.inr.inl =>
    show (burnZ s a d b).2.2.2.2 ≤ 4294836225
    unfold burnZ fracZ
    split
    · exact (by decide : (1 : Int) ≤ 4294836225)
    · split
      · exact (by decide : (1 : Int) ≤ 4294836225)
      · show s ≤ 4294836225; omega
  case inr.inr.inr.inr.inr.inr.inr.inr.inr.inl =>
    show (softZ s a d b).2.2.2.2 ≤ 4294836225
    unfold softZ fracZ
    split
    · exact (by decide : (1 : Int) ≤ 4294836225)
    · split
      · show b ≤ 4294836225; omega
      · split
        · exact bb.2
        · exact (by decide : (1 : Int) ≤ 4294836225)
  all_goals exact (by decide : (1 : Int) ≤ 4294836225)
theorem InR.T_le {x : Int × Int × Int × Int × Int} {X : Int} (h : InR x X) : 2 * x.2.1 + isq (4 * (x.2.2.1 * x.2.2.1 * x.2.2.2.1)) ≤ 2 * (X * x.2.2.2.2) := by
  have := isq4_le (Int.mul_nonneg (Int.mul_nonneg h.q0 h.q0) h.r0) (show 0 ≤ X * x.2.2.2.2 - x.2.1 by have := h.le; omega) h.sq
  omega
theorem InR.T_nn {x : Int × Int × Int × Int × Int} {X : Int} (h : InR x X) : 0 ≤ isq (4 * (x.2.2.1 * x.2.2.1 * x.2.2.2.1)) :=
  isq_nn (by have := Int.mul_nonneg (Int.mul_nonneg h.q0 h.q0) h.r0; omega)
theorem U0 (x : Int) : U 0 x = x := by unfold U; omega
/-- What Straight gives, and its bound. -/
theorem straightZ {m s d a : Int} (hs : CA s a) (hd : CA d a) (h0 : 1 ≤ m) (h1 : m ≤ 12) (ha : 1 ≤ a) :
    F_blend_Straight m s d a = (hv (termZ m s a d a).2.1 (isq (4 * ((termZ m s a d a).2.2.1 * (termZ m s a d a).2.2.1 * (termZ m s a d a).2.2.2.1))) ((termZ m s a d a).2.2.2.2 * a), true) ∧
    0 ≤ hv (termZ m s a d a).2.1 (isq (4 * ((termZ m s a d a).2.2.1 * (termZ m s a d a).2.2.1 * (termZ m s a d a).2.2.2.1))) ((termZ m s a d a).2.2.2.2 * a) ∧
    hv (termZ m s a d a).2.1 (isq (4 * ((termZ m s a d a).2.2.1 * (termZ m s a d a).2.2.1 * (termZ m s a d a).2.2.2.1))) ((termZ m s a d a).2.2.2.2 * a) ≤ a := by
  have hr := term_InR hs hd h0 h1
  have hw := exact_W m (w16 hs.both.1) a d (w16 hd.both.2)
  have hden := term_den hs hd h0 h1
  have a1 := hs.a1
  rw [F_blend_Straight_eq]
  rw [exactCA hs hd h0 h1] at hw ⊢
  have hT := hr.T_le
  have hT0 := hr.T_nn
  generalize termZ m s a d a = t at *
  obtain ⟨ph, pl, q, r, den⟩ := t
  obtain ⟨k1, k2, k3, k4, k5, k6, k7, k8, k9⟩ := hr
  simp only [XWof6] at hw k1 k2 k3 k4 k5 k6 k7 k8 k9 hden hT hT0 ⊢
  subst k1
  have da := mulB (show 0 ≤ den by omega) hden (show 0 ≤ a by omega) a1
  have da1 : 1 * 1 ≤ den * a := Int.mul_le_mul k7 ha (by decide) (by omega)
  have e : a * a * den = a * (den * a) := by grind
  have hle : hv pl (isq (4 * (q * q * r))) (den * a) ≤ a := hv_le (by omega) (by
    have : 2 * a * (den * a) = 2 * (a * a * den) := by grind
    omega)
  have hnn : 0 ≤ hv pl (isq (4 * (q * q * r))) (den * a) := hv_nn k2 hT0 (by omega)
  have haz : (a == 0) = false := by simp; omega
  have hv1 : VE 0 q r (den * a) := ⟨by decide, by omega, by omega, by omega⟩
  rw [u64_in (x := den * a) (by omega) (by omega), sHalf_hv hw.ph hw.pl hw.q hw.r ⟨by omega, by omega⟩ hv1 (by rw [U0]; omega), U0, haz]
  exact ⟨by rw [u16_in hnn (by omega)]; rfl, hnn, hle⟩
theorem straightF {m s d a p den : Int} (hs : CA s a) (hd : CA d a) (h0 : 1 ≤ m) (h1 : m ≤ 12) (ha : 1 ≤ a) (ht : termZ m s a d a = fracZ p den) :
    F_blend_Straight m s d a = (hv p 0 (den * a), true) ∧ 0 ≤ hv p 0 (den * a) ∧ hv p 0 (den * a) ≤ a := by
  have h := straightZ hs hd h0 h1 ha
  rw [ht] at h
  simp only [fracZ] at h
  rw [show (4 * ((0 : Int) * 0 * 0)) = 0 by decide, isq_0] at h
  exact h
theorem straightN {m s d a p den n : Int} (hs : CA s a) (hd : CA d a) (h0 : 1 ≤ m) (h1 : m ≤ 12) (ha : 1 ≤ a) (ht : termZ m s a d a = fracZ p den) (hden : 1 ≤ den) (hp : p = n * (den * a)) :
    F_blend_Straight m s d a = (n, true) := by
  rw [(straightF hs hd h0 h1 ha ht).1, hp, hv_exact (by have : 1 * 1 ≤ den * a := Int.mul_le_mul hden ha (by decide) (by omega); omega)]

theorem gMax_or (x : Int) : F_gen_Max x = 255 ∨ F_gen_Max x = 65535 := by
  rw [F_gen_Max_eq]
  simp only
  generalize (F_gen_Mod x 3 == 2) = c
  cases c <;> simp

/-! BlendNeutralColours -/
section
variable {m d : Int} (m0 : 1 ≤ m) (m1 : m ≤ 65535) (d0 : 0 ≤ d) (d1 : d ≤ m)
include m0 m1 d0 d1
theorem neutralW {k : Int} (hk : k = 2 ∨ k = 8 ∨ k = 5) : F_blend_Straight k m d m = (d, true) := by
  have hs : CA m m := ⟨by omega, Int.le_refl _, m1⟩
  have hd : CA d m := ⟨d0, d1, m1⟩
  rcases hk with rfl | rfl | rfl
  · exact straightN hs hd (by decide) (by decide) m0 (p := m * d) (den := 1) rfl (by decide) (by grind)
  · by_cases h1 : d = m
    · exact straightN hs hd (by decide) (by decide) m0 (p := m * m) (den := 1) (by simp [termZ, burnZ, h1]) (by decide) (by rw [h1]; grind)
    · by_cases h2 : m * m ≤ (m - d) * m
      · have : d * m ≤ 0 := by have : (m - d) * m = m * m - d * m := by grind
                               omega
        have h3 : d = 0 := by
          rcases Int.lt_or_le 0 d with h | h
          · have := Int.mul_pos h (show 0 < m by omega); omega
          · omega
        exact straightN hs hd (by decide) (by decide) m0 (p := 0) (den := 1) (by simp [termZ, burnZ, h1, h2]) (by decide) (by rw [h3]; grind)
      · exact straightN hs hd (by decide) (by decide) m0 (p := m * m * m - (m - d) * m * m) (den := m) (by simp [termZ, burnZ, h1, h2]) m0 (by grind)
  · refine straightN hs hd (by decide) (by decide) m0 (p := d * m) (den := 1) ?_ (by decide) (by grind)
    have := Int.mul_le_mul_of_nonneg_right d1 (show 0 ≤ m by omega)
    show fracZ (if d * m < m * m then d * m else m * m) 1 = fracZ (d * m) 1
    split
    · rfl
    · congr 1; omega
theorem neutralB {k : Int} (hk : k = 3 ∨ k = 7 ∨ k = 6 ∨ k = 11 ∨ k = 12) : F_blend_Straight k 0 d m = (d, true) := by
  have hs : CA 0 m := ⟨by decide, by omega, m1⟩
  have hd : CA d m := ⟨d0, d1, m1⟩
  have dm := Int.mul_nonneg d0 (show 0 ≤ m by omega)
  rcases hk with rfl | rfl | rfl | rfl | rfl
  · exact straightN hs hd (by decide) (by decide) m0 (p := d * m) (den := 1) (by simp [termZ]) (by decide) (by grind)
  · by_cases h1 : d = 0
    · exact straightN hs hd (by decide) (by decide) m0 (p := 0) (den := 1) (by simp [termZ, dodgeZ, h1]) (by decide) (by rw [h1]; grind)
    · by_cases h2 : m * m ≤ d * m
      · have h3 : d = m := by
          rcases Int.lt_or_le d m with h | h
          · have := Int.mul_lt_mul_of_pos_right h (show 0 < m by omega); omega
          · omega
        exact straightN hs hd (by decide) (by decide) m0 (p := m * m) (den := 1) (by simp [termZ, dodgeZ, h1, h2]) (by decide) (by rw [h3]; grind)
      · exact straightN hs hd (by decide) (by decide) m0 (p := m * m * d) (den := m) (by simp [termZ, dodgeZ, h1, h2]) m0 (by grind)
  · refine straightN hs hd (by decide) (by decide) m0 (p := d * m) (den := 1) ?_ (by decide) (by grind)
    show fracZ (if d * m > 0 * m then d * m else 0 * m) 1 = fracZ (d * m) 1
    rw [Int.zero_mul]
    split
    · rfl
    · congr 1; omega
  · refine straightN hs hd (by decide) (by decide) m0 (p := d * m) (den := 1) ?_ (by decide) (by grind)
    show fracZ ((if d * m > 0 * m then d * m else 0 * m) - (if d * m < 0 * m then d * m else 0 * m)) 1 = fracZ (d * m) 1
    rw [Int.zero_mul]
    split <;> split <;> congr 1 <;> omega
  · exact straightN hs hd (by decide) (by decide) m0 (p := d * m) (den := 1) (by simp [termZ]) (by decide) (by grind)
theorem neutralN : F_blend_Straight 1 d (m - d) m = (d, true) := by
  have hs : CA d m := ⟨d0, d1, m1⟩
  have hd : CA (m - d) m := ⟨by omega, by omega, m1⟩
  exact straightN hs hd (by decide) (by decide) m0 (p := d * m) (den := 1) rfl (by decide) (by grind)
end
theorem blendNeutralColours (p0 p1 p2 : Int) : F_law06_BlendNeutralColours p0 p1 p2 = true := by
  have hm := gMax_or p2
  rw [F_law06_BlendNeutralColours_eq]
  simp only [awake06]
  generalize F_gen_Max p2 = m at *
  have m0 : 1 ≤ m := by omega
  have m1 : m ≤ 65535 := by omega
  rw [i64_in (x := m + 1) (by omega) (by omega)]
  have hd := mod_bd p0 (n := m + 1) (by omega) (by omega)
  generalize F_gen_Mod p0 (m + 1) = d at *
  have d1 : d ≤ m := by omega
  rw [u16_in (x := d) hd.1 (by omega), u16_in (x := m - d) (by omega) (by omega), neutralN m0 m1 hd.1 d1,
    neutralW m0 m1 hd.1 d1 (k := 2) (by decide), neutralW m0 m1 hd.1 d1 (k := 8) (by decide), neutralW m0 m1 hd.1 d1 (k := 5) (by decide),
    neutralB m0 m1 hd.1 d1 (k := 3) (by decide), neutralB m0 m1 hd.1 d1 (k := 7) (by decide), neutralB m0 m1 hd.1 d1 (k := 6) (by decide), neutralB m0 m1 hd.1 d1 (k := 11) (by decide), neutralB m0 m1 hd.1 d1 (k := 12) (by decide)]
  have e3 := gMod (x := p1) (n := 3) (by decide) (by decide)
  have e5 := gMod (x := p1) (n := 5) (by decide) (by decide)
  have h3 : p1 % 3 = 0 ∨ p1 % 3 = 1 ∨ p1 % 3 = 2 := by omega
  have h5 : p1 % 5 = 0 ∨ p1 % 5 = 1 ∨ p1 % 5 = 2 ∨ p1 % 5 = 3 ∨ p1 % 5 = 4 := by omega
  rw [e3, e5]
  rcases h3 with h | h | h <;> rw [h] <;> rcases h5 with k | k | k | k | k <;> rw [k] <;> simp

/-! BlendDuals -/
theorem dual_sum {P Q m D : Int} (hD : 1 ≤ D) (h : P + Q = m * D) : hv P 0 D + hv Q 0 D = m ∨ hv P 0 D + hv Q 0 D = m + 1 := by
  have a := hv_spec (P := P) (T := 0) hD
  have b := hv_spec (P := Q) (T := 0) hD
  generalize hv P 0 D = x at *
  generalize hv Q 0 D = y at *
  have h1 : 2 * D * (x + y) < 2 * D * (m + 2) := by
    have e1 : 2 * D * (x + y) = 2 * D * x + 2 * D * y := by grind
    have e2 : 2 * D * (m + 2) = 2 * (m * D) + 4 * D := by grind
    omega
  have h2 : 2 * D * (m - 1) < 2 * D * (x + y) := by
    have e1 : 2 * D * (x + y) = 2 * D * x + 2 * D * y := by grind
    have e2 : 2 * D * (m - 1) = 2 * (m * D) - 2 * D := by grind
    omega
  have h3 : x + y < m + 2 := Int.lt_of_mul_lt_mul_left h1 (by omega)
  have h4 : m - 1 < x + y := Int.lt_of_mul_lt_mul_left h2 (by omega)
  omega
/-- Two modes, complements of one another at s, d. -/
def Dual (k k' s d m : Int) : Prop := ∃ x y : Int, F_blend_Straight k s d m = (x, true) ∧ F_blend_Straight k' (m - s) (m - d) m = (y, true) ∧ 0 ≤ x ∧ x ≤ m ∧ 0 ≤ y ∧ y ≤ m ∧ (x + y = m ∨ x + y = m + 1)
section
variable {m s d : Int} (m0 : 1 ≤ m) (m1 : m ≤ 65535) (s0 : 0 ≤ s) (s1 : s ≤ m) (d0 : 0 ≤ d) (d1 : d ≤ m)
include m0 m1 s0 s1 d0 d1
theorem dual_of {k k' p p' den : Int} (h0 : 1 ≤ k) (h1 : k ≤ 12) (h0' : 1 ≤ k') (h1' : k' ≤ 12) (hden : 1 ≤ den) (t : termZ k s m d m = fracZ p den) (t' : termZ k' (m - s) m (m - d) m = fracZ p' den) (h : p + p' = m * (den * m)) : Dual k k' s d m := by
  have a := straightF ⟨s0, s1, m1⟩ ⟨d0, d1, m1⟩ h0 h1 m0 t
  have b := straightF (s := m - s) (d := m - d) ⟨by omega, by omega, m1⟩ ⟨by omega, by omega, m1⟩ h0' h1' m0 t'
  exact ⟨_, _, a.1, b.1, a.2.1, a.2.2, b.2.1, b.2.2, dual_sum (by have : 1 * 1 ≤ den * m := Int.mul_le_mul hden m0 (by decide) (by omega); omega) h⟩
theorem dual1 : Dual 3 2 s d m :=
  dual_of m0 m1 s0 s1 d0 d1 (p := s * m + d * m - s * d) (p' := (m - s) * (m - d)) (den := 1) (by decide) (by decide) (by decide) (by decide) (by decide) rfl rfl (by grind)
theorem dual2 : Dual 6 5 s d m := by
  refine dual_of m0 m1 s0 s1 d0 d1 (p := if d * m > s * m then d * m else s * m) (p' := if (m - d) * m < (m - s) * m then (m - d) * m else (m - s) * m) (den := 1) (by decide) (by decide) (by decide) (by decide) (by decide) rfl rfl ?_
  have e1 : (m - d) * m = m * m - d * m := by grind
  have e2 : (m - s) * m = m * m - s * m := by grind
  rw [e1, e2, Int.one_mul]
  split <;> split <;> omega
theorem dual3 : Dual 8 7 s d m := by
  have e1 : m - (m - s) = s := by omega
  by_cases h1 : d = m
  · refine dual_of m0 m1 s0 s1 d0 d1 (p := m * m) (p' := 0) (den := 1) (by decide) (by decide) (by decide) (by decide) (by decide) (by simp [termZ, burnZ, h1]) ?_ (by grind)
    have : m - d = 0 := by omega
    simp [termZ, dodgeZ, this]
  · have h2 : ¬ m - d = 0 := by omega
    by_cases h3 : s * m ≤ (m - d) * m
    · refine dual_of m0 m1 s0 s1 d0 d1 (p := 0) (p' := m * m) (den := 1) (by decide) (by decide) (by decide) (by decide) (by decide) (by simp [termZ, burnZ, h1, h3]) ?_ (by grind)
      rw [Int.mul_comm s m] at h3
      simp [termZ, dodgeZ, h2, e1, h3]
    · have s2 : 1 ≤ s := by
        rcases Int.lt_or_le 0 s with h | h
        · exact h
        · have : s = 0 := by omega
          subst this
          have := Int.mul_nonneg (show 0 ≤ m - d by omega) (show 0 ≤ m by omega)
          omega
      refine dual_of m0 m1 s0 s1 d0 d1 (p := m * m * s - (m - d) * m * m) (p' := m * m * (m - d)) (den := s) (by decide) (by decide) (by decide) (by decide) s2 (by simp [termZ, burnZ, h1, h3]) ?_ (by grind)
      rw [Int.mul_comm s m] at h3
      simp [termZ, dodgeZ, h2, e1, h3]
theorem dual4 (hm : m % 2 = 1) : Dual 9 9 s d m := by
  by_cases h : 2 * s ≤ m
  · have h' : ¬ 2 * (m - s) ≤ m := by omega
    refine dual_of m0 m1 s0 s1 d0 d1 (p := 2 * s * d) (p' := hardZ (m - s) m (m - d) m) (den := 1) (by decide) (by decide) (by decide) (by decide) (by decide) (by simp [termZ, h]) (by simp [termZ, h']) ?_
    unfold hardZ
    grind
  · have h' : 2 * (m - s) ≤ m := by omega
    refine dual_of m0 m1 s0 s1 d0 d1 (p := hardZ s m d m) (p' := 2 * (m - s) * (m - d)) (den := 1) (by decide) (by decide) (by decide) (by decide) (by decide) (by simp [termZ, h]) (by simp [termZ, h']) ?_
    unfold hardZ
    grind
end
theorem blendDuals (p0 p1 p2 p3 : Int) : F_law06_BlendDuals p0 p1 p2 p3 = true := by
  have hm := gMax_or p3
  rw [F_law06_BlendDuals_eq]
  simp only [awake06]
  generalize F_gen_Max p3 = m at *
  have m0 : 1 ≤ m := by omega
  have m1 : m ≤ 65535 := by omega
  have m2 : m % 2 = 1 := by omega
  rw [i64_in (x := m + 1) (by omega) (by omega)]
  have hs := mod_bd p1 (n := m + 1) (by omega) (by omega)
  have hd := mod_bd p2 (n := m + 1) (by omega) (by omega)
  generalize F_gen_Mod p1 (m + 1) = s at *
  generalize F_gen_Mod p2 (m + 1) = d at *
  have s1 : s ≤ m := by omega
  have d1 : d ≤ m := by omega
  rw [u16_in (x := s) hs.1 (by omega), u16_in (x := d) hd.1 (by omega), u16_in (x := m - s) (by omega) (by omega), u16_in (x := m - d) (by omega) (by omega)]
  obtain ⟨x1, y1, a1, b1, c1, d1', e1, f1, g1⟩ := dual1 m0 m1 hs.1 s1 hd.1 d1
  obtain ⟨x2, y2, a2, b2, c2, d2, e2, f2, g2⟩ := dual2 m0 m1 hs.1 s1 hd.1 d1
  obtain ⟨x3, y3, a3, b3, c3, d3, e3, f3, g3⟩ := dual3 m0 m1 hs.1 s1 hd.1 d1
  obtain ⟨x4, y4, a4, b4, c4, d4, e4, f4, g4⟩ := dual4 m0 m1 hs.1 s1 hd.1 d1 m2
  have hh : ∀ {x y : Int}, (x + y = m ∨ x + y = m + 1) → (bif x + y == m then true else x + y == m + 1) = true := by
    intro x y h
    rcases h with h | h <;> simp [h]
  rw [a1, b1, a2, b2, a3, b3, a4, b4]
  simp only [i64_in (x := x1 + y1) (by omega) (by omega), i64_in (x := x2 + y2) (by omega) (by omega), i64_in (x := x3 + y3) (by omega) (by omega), i64_in (x := x4 + y4) (by omega) (by omega), hh g1, hh g2, hh g3, hh g4]
  have e0 := gMod (x := p0) (n := 4) (by decide) (by decide)
  have h4 : p0 % 4 = 0 ∨ p0 % 4 = 1 ∨ p0 % 4 = 2 ∨ p0 % 4 = 3 := by omega
  rw [e0]
  rcases h4 with h | h | h | h <;> rw [h] <;> simp
end Go.Proofs.YtiooegkbkahppaaDoor
