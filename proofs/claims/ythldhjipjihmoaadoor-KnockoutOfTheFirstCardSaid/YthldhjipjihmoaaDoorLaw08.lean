/- The statements of chapter 08, and those of chapter 10 that reach the operators, as plain laws. -/
import Derived.Test.YthldhjipjihmoaaDoorMix
import Derived.Test.YthldhjipjihmoaaDoorLaw10
import Derived.Test.YthldhjipjihmoaaDoorSm08b
namespace Go.Proofs.YthldhjipjihmoaaDoor
open Go.RowKit

theorem colorsM {o k m s a d b : Int} (m1 : Is16 m) (s1 : Is16 s) (a1 : Is16 a) (d1 : Is16 d) (b1 : Is16 b) : F_mix_Color o k m s a d b = F_ref06_Color o k m s a d b := by
  rw [pColor m1 s1 a1 d1 b1, rColorM m1 s1 a1 d1 b1]
theorem valuesM {o k m s a d b : Int} (m1 : Is16 m) (s1 : Is16 s) (a1 : Is16 a) (d1 : Is16 d) (b1 : Is16 b) : F_mix_Value o k m s a d b = F_ref06_Value o k m s a d b := by
  rw [pValue m1 s1 a1 d1 b1, rValue m1 s1 a1 d1 b1]
theorem n16 {x : Int} (h : 0 ≤ x ∧ x ≤ 65535) : Is16 x := h
/-- A whole term: the composite without a root. -/
theorem mixH_frac {o k m s a d b p den : Int} (ht : termZ k s a d b = fracZ p den) : mixH o k m s a d b = hv (((m - b) * s * den + p) * (facZ o a b m).1 + d * m * den * (facZ o a b m).2) 0 (m * m * den) := by
  unfold mixH mixN mixQ mixD
  rw [ht]
  simp only [fracZ]
  rw [show 4 * ((facZ o a b m).1 * 0 * ((facZ o a b m).1 * 0) * 0) = 0 by simp, isq_0]
theorem awake08 : F_law08_awake = true := by
  have i (x : Int) (h : 0 ≤ x ∧ x ≤ 65535) : Is16 x := h
  rw [F_law08_awake_eq, pColor (m := 255) (i _ (by decide)) (i _ (by decide)) (i _ (by decide)) (i _ (by decide)) (i _ (by decide)), pColor (m := 255) (i _ (by decide)) (i _ (by decide)) (i _ (by decide)) (i _ (by decide)) (i _ (by decide)), pColor (m := 255) (i _ (by decide)) (i _ (by decide)) (i _ (by decide)) (i _ (by decide)) (i _ (by decide)),
    if_pos (by decide), if_pos (by decide), if_pos (by decide)]
  have e1 : mixH 4 1 255 100 128 50 255 = 125 := by
    rw [mixH_frac (p := 25500) (den := 1) (by decide)]
    decide
  have e2 : mixH 1 3 255 9 9 9 9 = 0 := by
    rw [mixH_frac (p := 81) (den := 1) (by decide)]
    decide
  have e3 : mixH 4 10 255 255 255 64 255 = 128 := by
    have ht : termZ 10 255 255 64 255 = (0, 0, 255, 16320, 1) := by decide
    have hf : facZ 4 255 255 255 = (255, 0) := by decide
    unfold mixH mixN mixQ mixD
    rw [ht, hf]
    simp only
    have i : isq (4 * (255 * 255 * (255 * 255) * 16320)) = 16613855 := isq_eq (by decide) (by decide) (by decide) (by decide)
    rw [i]
    decide
  rw [e1, e2, e3]
  decide
theorem mixAgrees (p0 p1 p2 p3 p4 p5 p6 : Int) : F_law08_MixAgrees p0 p1 p2 p3 p4 p5 p6 = true := by
  have hm := mMax p6
  have hs := gAlphaM p2 p3 hm.2.1 hm.2.2
  have hd := gAlphaM p4 p5 hm.2.1 hm.2.2
  rw [F_law08_MixAgrees_eq]
  simp only [awake08, colorsM (m := F_gen_Max p6) ⟨by omega, by omega⟩ (s := (F_gen_Alpha p2 p3 (F_gen_Max p6)).1) ⟨by omega, by omega⟩ (a := (F_gen_Alpha p2 p3 (F_gen_Max p6)).2) ⟨by omega, by omega⟩ (d := (F_gen_Alpha p4 p5 (F_gen_Max p6)).1) ⟨by omega, by omega⟩ (b := (F_gen_Alpha p4 p5 (F_gen_Max p6)).2) ⟨by omega, by omega⟩, beq_self_eq_true, cond_true]
theorem mixAgreesForAll (p0 p1 : Int) {p2 p3 p4 p5 p6 : Int} (h2 : Is16 p2) (h3 : Is16 p3) (h4 : Is16 p4) (h5 : Is16 p5) (h6 : Is16 p6) (p7 : Bool) : F_law08_MixAgreesForAll p0 p1 p2 p3 p4 p5 p6 p7 = true := by
  have i65 : Is16 65535 := ⟨by decide, by decide⟩
  rw [F_law08_MixAgreesForAll_eq]
  simp only [awake08, colorsM i65 h3 h4 h5 h6, colorsM h2 h3 h4 h5 h6, valuesM i65 h3 h4 h5 h6, valuesM h2 h3 h4 h5 h6, beq_self_eq_true, cond_true, Bool.and_self]
  cases p7 <;> rfl
section
variable {o k m s a d b : Int} (hm : m = 255 ∨ m = 65535) (hs : 0 ≤ s ∧ s ≤ a ∧ a ≤ m) (hd : 0 ≤ d ∧ d ≤ b ∧ b ≤ m) (ho : 1 ≤ o ∧ o ≤ 12) (hk : 1 ≤ k ∧ k ≤ 12)
include hm hs hd ho hk
theorem mvOf : MV o k m s a d b := ⟨ho, hk, hs.2.1, hd.2.1, hs.2.2, hd.2.2, hm⟩
theorem colorV : F_mix_Color o k m s a d b = (mixH o k m s a d b, true) ∧ 0 ≤ mixH o k m s a d b ∧ mixH o k m s a d b ≤ alphaZ o a b m := by
  have m1 : Is16 m := ⟨by omega, by omega⟩
  have s1 : Is16 s := ⟨by omega, by omega⟩
  have a1 : Is16 a := ⟨by omega, by omega⟩
  have d1 : Is16 d := ⟨by omega, by omega⟩
  have b1 : Is16 b := ⟨by omega, by omega⟩
  have h := mvOf hm hs hd ho hk
  rw [pColor m1 s1 a1 d1 b1, if_pos h]
  exact ⟨rfl, mixH_le m1 s1 a1 d1 b1 h⟩
end
theorem alphaV {o a b m : Int} (hm : m = 255 ∨ m = 65535) (ha : 0 ≤ a ∧ a ≤ m) (hb : 0 ≤ b ∧ b ≤ m) (ho : 1 ≤ o ∧ o ≤ 12) : F_operator_Alpha o a b m = alphaZ o a b m ∧ 0 ≤ alphaZ o a b m ∧ alphaZ o a b m ≤ m :=
  pAlpha (o := o) (a := a) (b := b) ⟨by omega, by omega⟩ ⟨by omega, by omega⟩ ⟨by omega, by omega⟩ (by omega) ⟨ho, by omega, by omega⟩
theorem mixValueAgrees (p0 p1 p2 p3 p4 p5 p6 : Int) : F_law08_MixValueAgrees p0 p1 p2 p3 p4 p5 p6 = true := by
  have hm := mMax p6
  have hs := gAlphaM p2 p3 hm.2.1 hm.2.2
  have hd := gAlphaM p4 p5 hm.2.1 hm.2.2
  have ho := mode12 p0
  have hk := mode12 p1
  rw [F_law08_MixValueAgrees_eq]
  simp only [awake08]
  generalize IntKind.i64.wrap (1 + F_gen_Mod p0 12) = o at *
  generalize IntKind.i64.wrap (1 + F_gen_Mod p1 12) = k at *
  generalize F_gen_Max p6 = m at *
  generalize F_gen_Alpha p2 p3 m = x at *
  generalize F_gen_Alpha p4 p5 m = y at *
  obtain ⟨s, a⟩ := x
  obtain ⟨d, b⟩ := y
  simp only at hs hd ⊢
  have h := mvOf hm.1 hs hd ho hk
  have hc := colorV hm.1 hs hd ho hk
  have m1 : Is16 m := ⟨by omega, by omega⟩
  have s1 : Is16 s := ⟨by omega, by omega⟩
  have a1 : Is16 a := ⟨by omega, by omega⟩
  have d1 : Is16 d := ⟨by omega, by omega⟩
  have b1 : Is16 b := ⟨by omega, by omega⟩
  have hr := (mixRound m1 s1 a1 d1 b1 h).2
  have ht : (outV o k m s a d b).2.2.2.2.2 = true := rfl
  rw [hc.1, pValue m1 s1 a1 d1 b1, rValue m1 s1 a1 d1 b1, if_pos h, ht, hr]
  simp only [beq_self_eq_true, cond_true, Bool.and_self]
theorem mixColourBelowAlpha (p0 p1 p2 p3 p4 p5 p6 : Int) : F_law08_MixColourBelowAlpha p0 p1 p2 p3 p4 p5 p6 = true := by
  have hm := mMax p6
  have hs := gAlphaM p2 p3 hm.2.1 hm.2.2
  have hd := gAlphaM p4 p5 hm.2.1 hm.2.2
  have ho := mode12 p0
  have hk := mode12 p1
  have hc := colorV hm.1 hs hd ho hk
  have ha := alphaV hm.1 (a := (F_gen_Alpha p2 p3 (F_gen_Max p6)).2) (b := (F_gen_Alpha p4 p5 (F_gen_Max p6)).2) ⟨by omega, by omega⟩ ⟨by omega, by omega⟩ ho
  rw [F_law08_MixColourBelowAlpha_eq]
  simp only [awake08, hc.1, ha.1, decide_eq_true hc.2.2, cond_true]

/-! MixNormalIsTheClassic -/
theorem hv_add {P T d n : Int} (hd : 1 ≤ d) : hv (P + n * d) T d = hv P T d + n := by
  have h := hv_spec (P := P) (T := T) hd
  have e1 : 2 * d * (hv P T d + n) = 2 * d * hv P T d + 2 * (n * d) := by grind
  exact hv_uq (by omega) (by omega)
theorem hv_scale0 {P d k : Int} (hd : 1 ≤ d) (hk : 1 ≤ k) : hv (P * k) 0 (d * k) = hv P 0 d := by
  have h := hv_scale (P := P) (S := 0) (Int.le_refl 0) hd hk
  rw [show 4 * (k * k * 0) = 0 by simp, show (4 * 0 : Int) = 0 by decide, isq_0] at h
  exact h
theorem mixNormalIsTheClassic (p0 p1 p2 p3 p4 : Int) : F_law08_MixNormalIsTheClassic p0 p1 p2 p3 p4 = true := by
  have hm := mMax p4
  have hs := gAlphaM p0 p1 hm.2.1 hm.2.2
  have hd := gAlphaM p2 p3 hm.2.1 hm.2.2
  rw [F_law08_MixNormalIsTheClassic_eq]
  simp only [awake08]
  generalize F_gen_Max p4 = m at *
  generalize F_gen_Alpha p0 p1 m = x at *
  generalize F_gen_Alpha p2 p3 m = y at *
  obtain ⟨s, a⟩ := x
  obtain ⟨d, b⟩ := y
  simp only at hs hd ⊢
  have m0 : 1 ≤ m := by omega
  have hc := colorV (o := 4) (k := 1) hm.1 hs hd (by decide) (by decide)
  have ha := alphaV (o := 4) hm.1 (a := a) (b := b) ⟨by omega, by omega⟩ ⟨by omega, by omega⟩ (by decide)
  have hf : facZ 4 a b m = (m, m - a) := rfl
  have e : mixH 4 1 m s a d b = hv ((m - a) * d) 0 m + s := by
    rw [mixH_frac (p := s * b) (den := 1) rfl, hf]
    have e1 : ((m - b) * s * 1 + s * b) * m + d * m * 1 * (m - a) = ((m - a) * d + s * m) * m := by grind
    simp only
    rw [e1, Int.mul_one, hv_scale0 m0 m0, hv_add m0]
  have b1 := mulB (show 0 ≤ m - a by omega) (show m - a ≤ 65535 by omega) hd.1 (show d ≤ 65535 by omega)
  have h0 := hv_nn (T := 0) b1.1 (Int.le_refl 0) m0
  rw [hc.1, u16_in (x := m - a) (by omega) (by omega), u64_in (x := (m - a) * d) b1.1 (by omega), rHalf b1.1 (by omega) m0 (by omega), e]
  rw [e] at hc
  rw [u64_in (x := s + hv ((m - a) * d) 0 m) (by omega) (by omega), Int.add_comm s]
  simp

/-! MixIgnoresModeWithoutOverlap -/
theorem mixH_t0 {o k m s a d b den : Int} (hm : 1 ≤ m) (ht : termZ k s a d b = (0, 0, 0, 0, den)) (hden : 1 ≤ den) : mixH o k m s a d b = hv ((m - b) * s * (facZ o a b m).1 + d * m * (facZ o a b m).2) 0 (m * m) := by
  have mm : 1 * 1 ≤ m * m := Int.mul_le_mul hm hm (by decide) (by omega)
  rw [mixH_frac (p := 0) (den := den) ht]
  have e : ((m - b) * s * den + 0) * (facZ o a b m).1 + d * m * den * (facZ o a b m).2 = ((m - b) * s * (facZ o a b m).1 + d * m * (facZ o a b m).2) * den := by grind
  rw [e, hv_scale0 (by omega) hden]
theorem mixIgnoresModeWithoutOverlap (p0 p1 p2 p3 p4 : Int) : F_law08_MixIgnoresModeWithoutOverlap p0 p1 p2 p3 p4 = true := by
  have hm := mMax p4
  have hs := gAlphaM p2 p3 hm.2.1 hm.2.2
  have ho := mode12 p0
  have hk := mode12 p1
  rw [F_law08_MixIgnoresModeWithoutOverlap_eq]
  simp only [awake08]
  generalize IntKind.i64.wrap (1 + F_gen_Mod p0 12) = o at *
  generalize IntKind.i64.wrap (1 + F_gen_Mod p1 12) = k at *
  generalize F_gen_Max p4 = m at *
  generalize F_gen_Alpha p2 p3 m = x at *
  obtain ⟨s, a⟩ := x
  simp only at hs ⊢
  have m0 : 1 ≤ m := by omega
  have z : 0 ≤ (0 : Int) ∧ (0 : Int) ≤ 0 ∧ 0 ≤ m := ⟨by decide, by decide, by omega⟩
  have cs : CA s a := ⟨hs.1, hs.2.1, by omega⟩
  obtain ⟨e1, t1, u1, -⟩ := term_d0 (s := s) (a := a) hk.1 hk.2
  obtain ⟨e2, t2, u2, -⟩ := term_d0 (m := 1) (s := s) (a := a) (by decide) (by decide)
  obtain ⟨e3, t3, u3, -⟩ := term_s0 hk.1 hk.2 cs
  obtain ⟨e4, t4, u4, -⟩ := term_s0 (m := 1) (by decide) (by decide) cs
  rw [(colorV hm.1 hs z ho hk).1, (colorV hm.1 hs z ho (k := 1) (by decide)).1, (colorV hm.1 z hs ho hk).1, (colorV hm.1 z hs ho (k := 1) (by decide)).1, mixH_t0 m0 t1 u1, mixH_t0 m0 t2 u2, mixH_t0 m0 t3 u3, mixH_t0 m0 t4 u4]
  simp

/-! MixOfOpaqueColours -/
section
variable {k m s d : Int} (hm : m = 255 ∨ m = 65535) (hs : 0 ≤ s ∧ s ≤ m) (hd : 0 ≤ d ∧ d ≤ m) (hk : 1 ≤ k ∧ k ≤ 12)
include hm hs hd hk
theorem opaqueB {o : Int} (ho : o = 4 ∨ o = 6 ∨ o = 10 ∨ o = 2) : ∃ x : Int, F_mix_Color o k m s m d m = (x, true) ∧ F_blend_Straight k s d m = (x, true) := by
  have cs : CA s m := ⟨hs.1, hs.2, by omega⟩
  have cd : CA d m := ⟨hd.1, hd.2, by omega⟩
  have m0 : 1 ≤ m := by omega
  have hz := straightZ cs cd hk.1 hk.2 m0
  have hr := term_InR cs cd hk.1 hk.2
  refine ⟨_, (colorV hm ⟨hs.1, hs.2, Int.le_refl m⟩ ⟨hd.1, hd.2, Int.le_refl m⟩ (by omega) hk).1, ?_⟩
  rw [hz.1]
  have hf : facZ o m m m = (m, 0) := by
    rcases ho with rfl | rfl | rfl | rfl <;> simp [facZ]
  have hden := hr.den
  have hq := Int.mul_nonneg (Int.mul_nonneg hr.q0 hr.q0) hr.r0
  unfold mixH mixN mixQ mixD
  rw [hf]
  generalize termZ k s m d m = t at *
  obtain ⟨ph, p, q, r, den⟩ := t
  simp only at hden hq ⊢
  have dm : 1 * 1 ≤ den * m := Int.mul_le_mul hden m0 (by decide) (by omega)
  have e1 : ((m - m) * s * den + p) * m + d * m * den * 0 = p * m := by grind
  have e2 : m * q * (m * q) * r = m * m * (q * q * r) := by grind
  have e3 : m * m * den = den * m * m := by grind
  rw [e1, e2, e3, hv_scale hq (by omega) m0]
theorem opaqueD {o : Int} (ho : o = 3 ∨ o = 5 ∨ o = 7 ∨ o = 11) : F_mix_Color o k m s m d m = (d, true) := by
  have cs : CA s m := ⟨hs.1, hs.2, by omega⟩
  have cd : CA d m := ⟨hd.1, hd.2, by omega⟩
  have m0 : 1 ≤ m := by omega
  have hr := term_InR cs cd hk.1 hk.2
  rw [(colorV hm ⟨hs.1, hs.2, Int.le_refl m⟩ ⟨hd.1, hd.2, Int.le_refl m⟩ (by omega) hk).1]
  have hf : facZ o m m m = (0, m) := by
    rcases ho with rfl | rfl | rfl | rfl <;> simp [facZ]
  have hden := hr.den
  unfold mixH mixN mixQ mixD
  rw [hf]
  generalize termZ k s m d m = t at *
  obtain ⟨ph, p, q, r, den⟩ := t
  simp only at hden ⊢
  have mm : 1 * 1 ≤ m * m := Int.mul_le_mul m0 m0 (by decide) (by omega)
  have dm : 1 * 1 ≤ m * m * den := Int.mul_le_mul (by omega) hden (by decide) (by omega)
  have e1 : ((m - m) * s * den + p) * 0 + d * m * den * m = d * (m * m * den) := by grind
  have e2 : 4 * (0 * q * (0 * q) * r) = 0 := by simp
  rw [e1, e2, isq_0, hv_exact (by omega)]
end
theorem mixOfOpaqueColours (p0 p1 p2 p3 p4 : Int) : F_law08_MixOfOpaqueColours p0 p1 p2 p3 p4 = true := by
  have hm := mMax p4
  have hk := mode12 p1
  rw [F_law08_MixOfOpaqueColours_eq]
  simp only [awake08]
  generalize IntKind.i64.wrap (1 + F_gen_Mod p1 12) = k at *
  generalize F_gen_Max p4 = m at *
  rw [i64_in (x := m + 1) (by omega) (by omega)]
  have hs := mod_bd p2 (n := m + 1) (by omega) (by omega)
  have hd := mod_bd p3 (n := m + 1) (by omega) (by omega)
  generalize F_gen_Mod p2 (m + 1) = s at *
  generalize F_gen_Mod p3 (m + 1) = d at *
  rw [u16_in (x := s) hs.1 (by omega), u16_in (x := d) hd.1 (by omega)]
  have hs' : 0 ≤ s ∧ s ≤ m := by omega
  have hd' : 0 ≤ d ∧ d ≤ m := by omega
  obtain ⟨x1, a1, c1⟩ := opaqueB hm.1 hs' hd' hk (o := 4) (by decide)
  obtain ⟨x2, a2, c2⟩ := opaqueB hm.1 hs' hd' hk (o := 6) (by decide)
  obtain ⟨x3, a3, c3⟩ := opaqueB hm.1 hs' hd' hk (o := 10) (by decide)
  obtain ⟨x4, a4, c4⟩ := opaqueB hm.1 hs' hd' hk (o := 2) (by decide)
  have q2 : x2 = x1 := by rw [c1] at c2; exact (congrArg Prod.fst c2).symm
  have q3 : x3 = x1 := by rw [c1] at c3; exact (congrArg Prod.fst c3).symm
  have q4 : x4 = x1 := by rw [c1] at c4; exact (congrArg Prod.fst c4).symm
  rw [a1, a2, a3, a4, c1, q2, q3, q4, opaqueD hm.1 hs' hd' hk (o := 3) (by decide), opaqueD hm.1 hs' hd' hk (o := 5) (by decide), opaqueD hm.1 hs' hd' hk (o := 7) (by decide), opaqueD hm.1 hs' hd' hk (o := 11) (by decide)]
  have e0 := gMod (x := p0) (n := 4) (by decide) (by decide)
  have h4 : p0 % 4 = 0 ∨ p0 % 4 = 1 ∨ p0 % 4 = 2 ∨ p0 % 4 = 3 := by omega
  rw [e0]
  rcases h4 with h | h | h | h <;> rw [h] <;> simp

/-! Chapter 10: the order of the samples; the first element. -/
section
variable {k m s a f c d b : Int} (hm : m = 255 ∨ m = 65535) (hs : 0 ≤ s ∧ s ≤ a ∧ a ≤ f ∧ f ≤ m) (hd : 0 ≤ d ∧ d ≤ b ∧ b ≤ m) (hc : 0 ≤ c ∧ c ≤ m)
include hm hs hd hc
theorem kColorV (hk : 1 ≤ k ∧ k ≤ 12) : F_knockout_Color k m s a f c d b = (kHalf k m s a f c d b, true) ∧ 0 ≤ kHalf k m s a f c d b ∧ kHalf k m s a f c d b ≤ kAlpha m a f c b := by
  have m1 : Is16 m := ⟨by omega, by omega⟩
  have s1 : Is16 s := ⟨by omega, by omega⟩
  have a1 : Is16 a := ⟨by omega, by omega⟩
  have f1 : Is16 f := ⟨by omega, by omega⟩
  have c1 : Is16 c := ⟨by omega, by omega⟩
  have d1 : Is16 d := ⟨by omega, by omega⟩
  have b1 : Is16 b := ⟨by omega, by omega⟩
  have h : KV k m s a f c d b := by unfold KV; omega
  rw [kColor s1 a1 f1 c1 d1 b1 m1, if_pos h]
  exact ⟨rfl, kHalf_le s1 a1 f1 c1 d1 b1 h⟩
end
section
variable {m a f c b : Int} (hm : m = 255 ∨ m = 65535) (hs : 0 ≤ a ∧ a ≤ f ∧ f ≤ m) (hb : 0 ≤ b ∧ b ≤ m) (hc : 0 ≤ c ∧ c ≤ m)
include hm hs hb hc
theorem kAlphaV : F_knockout_Alpha m a f c b = (kAlpha m a f c b, true) ∧ 0 ≤ kAlpha m a f c b ∧ kAlpha m a f c b ≤ m := by
  have m1 : Is16 m := ⟨by omega, by omega⟩
  have a1 : Is16 a := ⟨by omega, by omega⟩
  have f1 : Is16 f := ⟨by omega, by omega⟩
  have c1 : Is16 c := ⟨by omega, by omega⟩
  have b1 : Is16 b := ⟨by omega, by omega⟩
  have h : KA m a f c b := by unfold KA; omega
  rw [kAl a1 f1 c1 b1 m1, if_pos h]
  exact ⟨rfl, kAlpha_bd a1 f1 c1 b1 h⟩
end
theorem kAlpha_mono {m a f c c' b b' : Int} (hm : 1 ≤ m) (hf : f ≤ m) (haf : a ≤ f) (hc : c ≤ c') (hb : b ≤ b') : kAlpha m a f c b ≤ kAlpha m a f c' b' := by
  have p1 : (m - f) * c ≤ (m - f) * c' := Int.mul_le_mul_of_nonneg_left hc (by omega)
  have p2 : (f - a) * b ≤ (f - a) * b' := Int.mul_le_mul_of_nonneg_left hb (by omega)
  unfold kAlpha
  refine hv_mono hm hm ?_
  have : (2 * ((m - f) * c + (f - a) * b + m * a) + 0) * m ≤ (2 * ((m - f) * c' + (f - a) * b' + m * a)) * m := Int.mul_le_mul_of_nonneg_right (by omega) (by omega)
  have e : (2 * ((m - f) * c' + (f - a) * b' + m * a)) * m = 2 * (((m - f) * c' + (f - a) * b' + m * a) * m) := Int.mul_assoc _ _ _
  omega
/-- The own alpha is at most the union of the shapes. -/
theorem own_le_union {m a f c g : Int} (hm : 1 ≤ m) (haf : a ≤ f) (hf : f ≤ m) (hc : c ≤ g) : kAlpha m a f c 0 ≤ hv (m * f + (m - f) * g) 0 m := by
  have p1 : (m - f) * c ≤ (m - f) * g := Int.mul_le_mul_of_nonneg_left hc (by omega)
  have p2 : m * a ≤ m * f := Int.mul_le_mul_of_nonneg_left haf (by omega)
  unfold kAlpha
  refine hv_mono hm hm ?_
  have : (2 * ((m - f) * c + (f - a) * 0 + m * a) + 0) * m ≤ (2 * (m * f + (m - f) * g)) * m := Int.mul_le_mul_of_nonneg_right (by rw [Int.mul_zero]; omega) (by omega)
  have e : (2 * (m * f + (m - f) * g)) * m = 2 * ((m * f + (m - f) * g) * m) := Int.mul_assoc _ _ _
  omega
theorem knockoutKeepsOrder (p0 p1 p2 p3 p4 p5 p6 p7 p8 p9 : Int) : F_law10_KnockoutKeepsOrder p0 p1 p2 p3 p4 p5 p6 p7 p8 p9 = true := by
  have hm := mMax p9
  have hs := sourceM p1 p2 p3 hm.2.1 hm.2.2
  have hd := gAlphaM p7 p8 hm.2.1 hm.2.2
  have hac := gSampleM p5 hm.2.1 hm.2.2
  have hc := gSampleM p4 hac.1 (Int.le_trans hac.2 hm.2.2)
  have hsh := gSampleM p6 hm.2.1 hm.2.2
  have hk := mode12 p0
  rw [F_law10_KnockoutKeepsOrder_eq]
  simp only [awake10]
  generalize IntKind.i64.wrap (1 + F_gen_Mod p0 12) = k at *
  generalize F_gen_Max p9 = m at *
  generalize F_law10_source p1 p2 p3 m = x at *
  generalize F_gen_Alpha p7 p8 m = y at *
  generalize F_gen_Sample p5 m = acc at *
  generalize F_gen_Sample p4 acc = c at *
  generalize F_gen_Sample p6 m = g at *
  obtain ⟨s, a, f⟩ := x
  obtain ⟨d, b⟩ := y
  simp only at hs hd ⊢
  have m0 : 1 ≤ m := by omega
  have hw : ∃ w, (if g < acc then g else acc) = w ∧ 0 ≤ w ∧ w ≤ acc ∧ w ≤ g := by split <;> exact ⟨_, rfl, by omega, by omega, by omega⟩
  obtain ⟨w, ew, w0, w1, w2⟩ := hw
  have h1 := kColorV (c := c) hm.1 hs hd ⟨by omega, by omega⟩ hk
  have h2 := kAlphaV (a := a) (f := f) (c := acc) (b := b) hm.1 ⟨by omega, by omega, by omega⟩ ⟨by omega, by omega⟩ hac
  have h3 := kAlphaV (a := a) (f := f) (c := w) (b := 0) hm.1 ⟨by omega, by omega, by omega⟩ ⟨by omega, by omega⟩ ⟨by omega, by omega⟩
  have h4 := pShape (o := 4) (a := f) (b := g) (m := m) ⟨by omega, by omega⟩ ⟨by omega, by omega⟩ ⟨by omega, by omega⟩ m0 ⟨by decide, by omega, by omega⟩
  have h5 : shapeZ 4 f g m = hv (m * f + (m - f) * g) 0 m := rfl
  have k1 : kHalf k m s a f c d b ≤ kAlpha m a f acc b := Int.le_trans h1.2.2 (kAlpha_mono m0 (by omega) (by omega) hc.2 (Int.le_refl b))
  have k2 : kAlpha m a f w 0 ≤ kAlpha m a f acc b := kAlpha_mono m0 (by omega) (by omega) w1 (by omega)
  have k3 : kAlpha m a f w 0 ≤ hv (m * f + (m - f) * g) 0 m := own_le_union m0 (by omega) (by omega) w2
  rw [ew, kOwn, h1.1, h2.1, h3.1, h4, h5]
  simp only [decide_eq_true k1, decide_eq_true k2, decide_eq_true k3, decide_eq_true h2.2.2, cond_true]

/-! KnockoutOfTheFirst -/
theorem kFirst {k m s a f d b : Int} (hk : 1 ≤ k ∧ k ≤ 12) (hm : 1 ≤ m) (hs : CA s a) (hd : CA d b) : kHalf k m s a f d d b = mixH 4 k m s a d b := by
  have hr := term_InR hs hd hk.1 hk.2
  have hf : facZ 4 a b m = (m, m - a) := rfl
  have hden := hr.den
  have hq := Int.mul_nonneg (Int.mul_nonneg hr.q0 hr.q0) hr.r0
  unfold kHalf mixH mixN mixQ mixD rootT
  rw [hf]
  generalize termZ k s a d b = t at *
  obtain ⟨ph, p, q, r, den⟩ := t
  simp only at hden hq ⊢
  have dm : 1 * 1 ≤ m * den := Int.mul_le_mul hm hden (by decide) (by omega)
  have e1 : ((m - b) * s * den + p) * m + d * m * den * (m - a) = (((m - f) * d + (f - a) * d + (m - b) * s) * den + p) * m := by grind
  have e2 : m * q * (m * q) * r = m * m * (q * q * r) := by grind
  have e3 : m * m * den = m * den * m := by grind
  rw [e1, e2, e3, hv_scale hq (by omega) hm]
theorem knockoutOfTheFirst (p0 p1 p2 p3 p4 p5 p6 : Int) : F_law10_KnockoutOfTheFirst p0 p1 p2 p3 p4 p5 p6 = true := by
  have hm := mMax p6
  have hs := sourceM p1 p2 p3 hm.2.1 hm.2.2
  have hd := gAlphaM p4 p5 hm.2.1 hm.2.2
  have hk := mode12 p0
  rw [F_law10_KnockoutOfTheFirst_eq]
  simp only [awake10]
  generalize IntKind.i64.wrap (1 + F_gen_Mod p0 12) = k at *
  generalize F_gen_Max p6 = m at *
  generalize F_law10_source p1 p2 p3 m = x at *
  generalize F_gen_Alpha p4 p5 m = y at *
  obtain ⟨s, a, f⟩ := x
  obtain ⟨d, b⟩ := y
  simp only at hs hd ⊢
  have m0 : 1 ≤ m := by omega
  have h1 := kColorV (c := d) hm.1 hs hd ⟨by omega, by omega⟩ hk
  have h2 := kAlphaV (a := a) (f := f) (c := b) (b := b) hm.1 ⟨by omega, by omega, by omega⟩ ⟨by omega, by omega⟩ ⟨by omega, by omega⟩
  have h3 := kAlphaV (a := a) (f := f) (c := 0) (b := 0) hm.1 ⟨by omega, by omega, by omega⟩ ⟨by omega, by omega⟩ ⟨by omega, by omega⟩
  have h4 := colorV (o := 4) (s := s) (a := a) hm.1 ⟨hs.1, hs.2.1, by omega⟩ hd (by decide) hk
  have h5 := alphaV (o := 4) (a := a) (b := b) hm.1 ⟨by omega, by omega⟩ ⟨by omega, by omega⟩ (by decide)
  have h6 : alphaZ 4 a b m = hv (m * a + (m - a) * b) 0 m := rfl
  have e1 : kAlpha m a f b b = hv (m * a + (m - a) * b) 0 m := by
    unfold kAlpha
    rw [show (m - f) * b + (f - a) * b + m * a = m * a + (m - a) * b by grind]
  have e2 : kAlpha m a f 0 0 = a := by
    unfold kAlpha
    rw [show (m - f) * 0 + (f - a) * 0 + m * a = a * m by grind, hv_exact m0]
  rw [kOwn, h1.1, h2.1, h3.1, h4.1, h5.1, h6, e1, e2, kFirst hk m0 ⟨hs.1, hs.2.1, by omega⟩ ⟨hd.1, hd.2.1, by omega⟩]
  simp
end Go.Proofs.YthldhjipjihmoaaDoor
