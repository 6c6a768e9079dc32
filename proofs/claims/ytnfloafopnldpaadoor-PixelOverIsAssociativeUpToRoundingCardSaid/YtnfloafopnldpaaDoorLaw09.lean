/- The statements of chapter 09, as plain laws. -/
import Derived.Test.YtnfloafopnldpaaDoorPix
import Derived.Test.YtnfloafopnldpaaDoorSm09b
namespace Go.Proofs.YtnfloafopnldpaaDoor
open Go.RowKit

theorem pOpaque (c0 c1 c2 a f m : Int) : F_pixel_Opaque c0 c1 c2 a f m = decide ((m = 255 ∨ m = 65535) ∧ VP c0 c1 c2 a f m ∧ a = m) := by
  rw [F_pixel_Opaque_eq]
  simp only [pValid, bif_ite, beq_dec]
  by_cases hv : VP c0 c1 c2 a f m
  · by_cases h1 : m = 255
    · subst h1
      simp [hv]
    · by_cases h2 : m = 65535
      · subst h2
        simp [hv]
      · simp [h1, h2]
  · simp [hv]
theorem awake09 : F_law09_awake = true := by
  have s : PV 1 2 3 255 255 255 := ⟨by decide, by decide, by decide, by decide, by decide, by decide, by decide, by decide⟩
  have d : PV 9 9 9 10 20 255 := ⟨by decide, by decide, by decide, by decide, by decide, by decide, by decide, by decide⟩
  rw [F_law09_awake_eq, compV (by decide) (by decide) (by decide) s d]
  unfold compZ
  rw [over_c (by decide), over_c (by decide), over_c (by decide), over_a (by decide), over_f (by decide), pOpaque, F_pixel_Transparent_eq]
  decide
theorem pixelClasses {p0 p1 p2 p3 p4 : Int} (p5 p6 p7 p8 p9 : Int) (p10 p11 : Int) : F_law09_PixelClasses p0 p1 p2 p3 p4 p5 p6 p7 p8 p9 p10 p11 = true := by
  have hm := mMax p11
  have hq := gPixelV p5 p6 p7 p8 p9 hm.2.1 hm.2.2
  rw [F_law09_PixelClasses_eq]
  simp only [full_dec, rValidP, pOpaque, awake09, F_pixel_Transparent_eq, beq_self_eq_true, cond_true]
  generalize F_gen_Max p11 = m at *
  generalize F_gen_Pixel p5 p6 p7 p8 p9 m = q at *
  obtain ⟨c0, c1, c2, a, f⟩ := q
  simp only at hq ⊢
  have hv := hq.vp
  have e1 : decide ((m = 255 ∨ m = 65535) ∧ VP c0 c1 c2 a f m ∧ a = m) = (a == m) := by simp [hm.1, hv, beq_dec]
  have e2 : decide (((7 : Int) = 255 ∨ (7 : Int) = 65535) ∧ VP 0 0 0 7 7 7 ∧ True) = false := by decide
  rw [e1, e2]
  by_cases h1 : p10 = 255 ∨ p10 = 65535
  · by_cases h2 : VP p0 p1 p2 p3 p4 p10
    · simp [h1, h2, beq_dec]
    · simp [h1, h2]
  · simp [h1]
theorem comps {o k m s0 s1 s2 a f d0 d1 d2 b g : Int} (m1 : Is16 m) (s : P16 s0 s1 s2 a f) (d : P16 d0 d1 d2 b g) : F_pixel_Composite o k m s0 s1 s2 a f d0 d1 d2 b g = F_ref06_Composite o k m s0 s1 s2 a f d0 d1 d2 b g := by
  rw [pComp m1 s d, rComp m1 s d]
theorem pixelCompositeAgrees (p0 p1 p2 p3 p4 p5 p6 p7 p8 p9 p10 p11 p12 : Int) {p13 p14 p15 p16 p17 p18 p19 p20 p21 p22 p23 : Int} (s : P16 p13 p14 p15 p16 p17) (d : P16 p18 p19 p20 p21 p22) (h : Is16 p23) : F_law09_PixelCompositeAgrees p0 p1 p2 p3 p4 p5 p6 p7 p8 p9 p10 p11 p12 p13 p14 p15 p16 p17 p18 p19 p20 p21 p22 p23 = true := by
  have hm := mMax p12
  have hs := (gPixelV p2 p3 p4 p5 p6 hm.2.1 hm.2.2).p16 hm.2.2
  have hd := (gPixelV p7 p8 p9 p10 p11 hm.2.1 hm.2.2).p16 hm.2.2
  rw [F_law09_PixelCompositeAgrees_eq]
  simp only [awake09, comps h s d, comps (m := F_gen_Max p12) hm.2 hs hd, beq_self_eq_true, cond_true, Bool.and_self]
theorem pixelStaysValid (p0 p1 p2 p3 p4 p5 p6 p7 p8 p9 p10 p11 p12 : Int) : F_law09_PixelStaysValid p0 p1 p2 p3 p4 p5 p6 p7 p8 p9 p10 p11 p12 = true := by
  have hm := mMax p12
  have hs := gPixelV p2 p3 p4 p5 p6 hm.2.1 hm.2.2
  have hd := gPixelV p7 p8 p9 p10 p11 hm.2.1 hm.2.2
  have ho := mode12 p0
  have hk := mode12 p1
  have hc := compV hm.1 ho hk hs hd
  have hv := comp_valid hm.1 ho hk hs hd
  rw [F_law09_PixelStaysValid_eq]
  simp only [awake09, hc, compZ, rValidP, decide_eq_true hv.vp, cond_true]

/-! PixelIdentities -/
theorem rNeutral (o : Int) : F_ref06_Neutral o = decide (neutralO o) := by
  rw [F_ref06_Neutral_eq]
  simp only [bif_ite, beq_dec]
  unfold neutralO
  by_cases h1 : o = 3
  · simp [h1]
  · by_cases h2 : o = 4
    · simp [h2]
    · by_cases h3 : o = 5
      · simp [h3]
      · by_cases h4 : o = 9
        · simp [h4]
        · by_cases h5 : o = 10
          · simp [h5]
          · simp [h1, h2, h3, h4, h5]
theorem rFresh (o : Int) : F_ref06_Fresh o = decide (freshO o) := by
  rw [F_ref06_Fresh_eq]
  simp only [bif_ite, beq_dec]
  unfold freshO
  by_cases h1 : o = 2
  · simp [h1]
  · by_cases h2 : o = 4
    · simp [h2]
    · by_cases h3 : o = 5
      · simp [h3]
      · by_cases h4 : o = 8
        · simp [h4]
        · by_cases h5 : o = 11
          · simp [h5]
          · simp [h1, h2, h3, h4, h5]
section
variable {o k m s0 s1 s2 a f d0 d1 d2 b g : Int} (hm : m = 255 ∨ m = 65535) (hk : 1 ≤ k ∧ k ≤ 12) (s : PV s0 s1 s2 a f m) (d : PV d0 d1 d2 b g m)
include hm hk d
theorem idNeutral (h : neutralO o) : F_pixel_Composite o k m 0 0 0 0 0 d0 d1 d2 b g = (d0, d1, d2, b, g, true) := by
  have m0 : 1 ≤ m := by omega
  have dp := d.p16 (show m ≤ 65535 by omega)
  have ho : 1 ≤ o ∧ o ≤ 12 := by unfold neutralO at h; omega
  have c (x : Int) (h1 : Is16 x) (h2 : x ≤ b) : CA x b := ⟨h1.1, h2, dp.a.2⟩
  rw [compV hm ho hk (PV.zero (by omega)) d]
  unfold compZ
  rw [neutral_c m0 h hk (c d0 dp.c0 d.u0), neutral_c m0 h hk (c d1 dp.c1 d.u1), neutral_c m0 h hk (c d2 dp.c2 d.u2), neutral_a m0 h, neutral_f m0 h]
include s
omit d in
theorem idFresh (h : freshO o) : F_pixel_Composite o k m s0 s1 s2 a f 0 0 0 0 0 = (s0, s1, s2, a, f, true) := by
  have m0 : 1 ≤ m := by omega
  have ho : 1 ≤ o ∧ o ≤ 12 := by unfold freshO at h; omega
  rw [compV hm ho hk s (PV.zero (by omega))]
  unfold compZ
  rw [fresh_c m0 h hk, fresh_c m0 h hk, fresh_c m0 h hk, fresh_a m0 h, fresh_f m0 h]
theorem idDst : F_pixel_Composite 3 k m s0 s1 s2 a f d0 d1 d2 b g = (d0, d1, d2, b, g, true) := by
  have m0 : 1 ≤ m := by omega
  have sp := s.p16 (show m ≤ 65535 by omega)
  have dp := d.p16 (show m ≤ 65535 by omega)
  have cs (x : Int) (h1 : Is16 x) (h2 : x ≤ a) : CA x a := ⟨h1.1, h2, sp.a.2⟩
  have cd (x : Int) (h1 : Is16 x) (h2 : x ≤ b) : CA x b := ⟨h1.1, h2, dp.a.2⟩
  rw [compV hm (by decide) hk s d]
  unfold compZ
  rw [dst_c m0 hk (cs s0 sp.c0 s.u0) (cd d0 dp.c0 d.u0), dst_c m0 hk (cs s1 sp.c1 s.u1) (cd d1 dp.c1 d.u1), dst_c m0 hk (cs s2 sp.c2 s.u2) (cd d2 dp.c2 d.u2), dst_a m0, dst_f]
omit hk in
theorem idSrc : F_pixel_Composite 2 1 m s0 s1 s2 a f d0 d1 d2 b g = (s0, s1, s2, a, f, true) := by
  have m0 : 1 ≤ m := by omega
  rw [compV hm (by decide) (by decide) s d]
  unfold compZ
  rw [src_c m0, src_c m0, src_c m0, src_a m0, src_f]
omit hk in
theorem overP : F_pixel_Composite 4 1 m s0 s1 s2 a f d0 d1 d2 b g = (ov s0 a d0 m, ov s1 a d1 m, ov s2 a d2 m, ov a a b m, ov f f g m, true) ∧ PV (ov s0 a d0 m) (ov s1 a d1 m) (ov s2 a d2 m) (ov a a b m) (ov f f g m) m := by
  have m0 : 1 ≤ m := by omega
  have hv := comp_valid (o := 4) (k := 1) hm (by decide) (by decide) s d
  rw [compV hm (by decide) (by decide) s d]
  unfold compZ
  rw [over_c m0, over_c m0, over_c m0, over_a m0, over_f m0] at *
  exact ⟨rfl, hv⟩
end
theorem pixelIdentities (p0 p1 p2 p3 p4 p5 p6 p7 p8 p9 p10 p11 p12 : Int) : F_law09_PixelIdentities p0 p1 p2 p3 p4 p5 p6 p7 p8 p9 p10 p11 p12 = true := by
  have hm := mMax p12
  have hs := gPixelV p2 p3 p4 p5 p6 hm.2.1 hm.2.2
  have hd := gPixelV p7 p8 p9 p10 p11 hm.2.1 hm.2.2
  have ho := mode12 p0
  have hk := mode12 p1
  rw [F_law09_PixelIdentities_eq]
  simp only [awake09, rNeutral, rFresh]
  generalize IntKind.i64.wrap (1 + F_gen_Mod p0 12) = o at *
  generalize IntKind.i64.wrap (1 + F_gen_Mod p1 12) = k at *
  generalize F_gen_Max p12 = m at *
  generalize F_gen_Pixel p2 p3 p4 p5 p6 m = s at *
  generalize F_gen_Pixel p7 p8 p9 p10 p11 m = d at *
  obtain ⟨s0, s1, s2, a, f⟩ := s
  obtain ⟨d0, d1, d2, b, g⟩ := d
  simp only at hs hd ⊢
  have z : PV 0 0 0 0 0 m := PV.zero hm.2.1
  have t1 : (F_pixel_Composite o k m 0 0 0 0 0 d0 d1 d2 b g).2.2.2.2.2 = true := by rw [compV hm.1 ho hk z hd]; rfl
  have t2 : (F_pixel_Composite o k m s0 s1 s2 a f 0 0 0 0 0).2.2.2.2.2 = true := by rw [compV hm.1 ho hk hs z]; rfl
  rw [idDst hm.1 hk hs hd, idSrc hm.1 hs hd]
  by_cases hn : neutralO o
  · rw [idNeutral hm.1 hk hd hn]
    by_cases hf : freshO o
    · rw [idFresh hm.1 hk hs hf]
      simp [hn, hf]
    · simp [hn, hf, t2]
  · by_cases hf : freshO o
    · rw [idFresh hm.1 hk hs hf]
      simp [hn, hf, t1]
    · simp [hn, hf, t1, t2]

/-! PixelRejectsOneSample -/
theorem pixelRejectsOneSample (p0 p1 p2 p3 p4 p5 p6 p7 p8 p9 p10 p11 p12 p13 : Int) : F_law09_PixelRejectsOneSample p0 p1 p2 p3 p4 p5 p6 p7 p8 p9 p10 p11 p12 p13 = true := by
  have hm := mMax p12
  have hs := gPixelV p2 p3 p4 p5 p6 hm.2.1 hm.2.2
  have e0 := gMod (x := IntKind.i64.wrap (Int.tdiv p13 3)) (n := 3) (by decide) (by decide)
  have h3 : IntKind.i64.wrap (Int.tdiv p13 3) % 3 = 0 ∨ IntKind.i64.wrap (Int.tdiv p13 3) % 3 = 1 ∨ IntKind.i64.wrap (Int.tdiv p13 3) % 3 = 2 := by omega
  rw [F_law09_PixelRejectsOneSample_eq]
  simp only [awake09, e0]
  generalize F_gen_Max p12 = m at *
  generalize F_gen_Pixel p2 p3 p4 p5 p6 m = s at *
  obtain ⟨s0, s1, s2, a, f⟩ := s
  obtain ⟨l0, l1, l2, u0, u1, u2, af, fm⟩ := hs
  simp only at l0 l1 l2 u0 u1 u2 af fm ⊢
  have hw : ∃ w, IntKind.u16.wrap (a - (if 1 < a then 1 else a)) = w ∧ ((a = 0 ∧ w = 0) ∨ (a ≠ 0 ∧ w < a)) := by
    by_cases h : 1 < a
    · exact ⟨a - 1, by rw [if_pos h]; exact u16_in (by omega) (by omega), by omega⟩
    · exact ⟨0, by rw [if_neg h, Int.sub_self]; exact u16_in (by omega) (by omega), by omega⟩
  obtain ⟨w, ew, hw⟩ := hw
  rw [ew]
  by_cases hz : a = 0
  · have g1 : ¬ VP 1 s1 s2 w f m := by unfold VP; omega
    have g2 : ¬ VP 1 a s2 w f m := by unfold VP; omega
    have g3 : ¬ VP 1 s1 a w f m := by unfold VP; omega
    have g4 : ¬ VP s0 s1 s2 (IntKind.u16.wrap (a + 1)) a m := by rw [u16_in (x := a + 1) (by omega) (by omega)]; unfold VP; omega
    have g5 : ¬ VP 1 0 0 0 0 m := by unfold VP; omega
    have g6 : m ≠ 65535 → ¬ VP s0 s1 s2 a (IntKind.u16.wrap (m + 1)) m := fun h => by rw [u16_in (x := m + 1) (by omega) (by omega)]; unfold VP; omega
    have e1 : (a == 0) = true := by simp [hz]
    have e2 : (a == 65535) = false := by simp; omega
    simp only [rejS g1, rejD g1, rejS g2, rejD g2, rejS g3, rejD g3, rejS g4, rejD g4, rejS g5, rejD g5, e1, e2, cond_true, cond_false]
    by_cases hm2 : m = 65535
    · rcases h3 with h | h | h <;> rw [h] <;> cases (F_gen_Mod p13 3 == 0) <;> cases (F_gen_Mod p13 3 == 1) <;> simp [hm2]
    · have e3 : (m == 65535) = false := by simp [hm2]
      simp only [rejS (g6 hm2), rejD (g6 hm2), e3]
      rcases h3 with h | h | h <;> rw [h] <;> cases (F_gen_Mod p13 3 == 0) <;> cases (F_gen_Mod p13 3 == 1) <;> simp
  · have g1 : ¬ VP a s1 s2 w f m := by unfold VP; omega
    have g2 : ¬ VP s0 a s2 w f m := by unfold VP; omega
    have g3 : ¬ VP s0 s1 a w f m := by unfold VP; omega
    have g4 : a ≠ 65535 → ¬ VP s0 s1 s2 (IntKind.u16.wrap (a + 1)) a m := fun h => by rw [u16_in (x := a + 1) (by omega) (by omega)]; unfold VP; omega
    have g4' : ¬ VP s0 s1 s2 65535 65534 m := by unfold VP; omega
    have g5 : ¬ VP 1 0 0 0 0 m := by unfold VP; omega
    have g6 : m ≠ 65535 → ¬ VP s0 s1 s2 a (IntKind.u16.wrap (m + 1)) m := fun h => by rw [u16_in (x := m + 1) (by omega) (by omega)]; unfold VP; omega
    have e1 : (a == 0) = false := by simp [hz]
    simp only [rejS g1, rejD g1, rejS g2, rejD g2, rejS g3, rejD g3, rejS g4', rejD g4', rejS g5, rejD g5, e1, cond_false]
    by_cases ha : a = 65535
    · have e2 : (a == 65535) = true := by simp [ha]
      have hm2 : m = 65535 := by omega
      have e3 : (m == 65535) = true := by simp [hm2]
      simp only [e2, e3, cond_true]
      rcases h3 with h | h | h <;> rw [h] <;> cases (F_gen_Mod p13 3 == 0) <;> cases (F_gen_Mod p13 3 == 1) <;> simp
    · have e2 : (a == 65535) = false := by simp [ha]
      simp only [rejS (g4 ha), rejD (g4 ha), e2, cond_false]
      by_cases hm2 : m = 65535
      · rcases h3 with h | h | h <;> rw [h] <;> cases (F_gen_Mod p13 3 == 0) <;> cases (F_gen_Mod p13 3 == 1) <;> simp [hm2]
      · have e3 : (m == 65535) = false := by simp [hm2]
        simp only [rejS (g6 hm2), rejD (g6 hm2), e3]
        rcases h3 with h | h | h <;> rw [h] <;> cases (F_gen_Mod p13 3 == 0) <;> cases (F_gen_Mod p13 3 == 1) <;> simp

/-! PixelOverIsAssociativeUpToRounding -/
theorem apart_le {x y : Int} (_hx : 0 ≤ x ∧ x ≤ 65535) (_hy : 0 ≤ y ∧ y ≤ 65535) (h1 : x - y ≤ 2) (h2 : y - x ≤ 2) : F_law09_apart x y ≤ 2 ∧ (x = y → F_law09_apart x y = 0) := by
  rw [F_law09_apart_eq]
  simp only [F_law09_max2_eq, bif_ite]
  rw [i64_in (x := x - y) (by omega) (by omega), i64_in (x := y - x) (by omega) (by omega)]
  constructor
  · split <;> omega
  · intro h
    split <;> omega
theorem max2_le {x y : Int} (hx : x ≤ 2) (hy : y ≤ 2) : F_law09_max2 x y ≤ 2 := by
  rw [F_law09_max2_eq, bif_ite]
  split <;> assumption
theorem pixelOverIsAssociativeUpToRounding (p0 p1 p2 p3 p4 p5 p6 p7 p8 p9 p10 p11 p12 p13 p14 p15 : Int) : F_law09_PixelOverIsAssociativeUpToRounding p0 p1 p2 p3 p4 p5 p6 p7 p8 p9 p10 p11 p12 p13 p14 p15 = true := by
  have hm := mMax p15
  have hp := gPixelV p0 p1 p2 p3 p4 hm.2.1 hm.2.2
  have hq := gPixelV p5 p6 p7 p8 p9 hm.2.1 hm.2.2
  have hr := gPixelV p10 p11 p12 p13 p14 hm.2.1 hm.2.2
  rw [F_law09_PixelOverIsAssociativeUpToRounding_eq]
  simp only [awake09]
  generalize F_gen_Max p15 = m at *
  generalize F_gen_Pixel p0 p1 p2 p3 p4 m = p at *
  generalize F_gen_Pixel p5 p6 p7 p8 p9 m = q at *
  generalize F_gen_Pixel p10 p11 p12 p13 p14 m = r at *
  obtain ⟨a0, a1, a2, aa, af⟩ := p
  obtain ⟨b0, b1, b2, ba, bf⟩ := q
  obtain ⟨c0, c1, c2, ca, cf⟩ := r
  simp only at hp hq hr ⊢
  have x := overP hm.1 hq hr
  have left := overP hm.1 hp x.2
  have y := overP hm.1 hp hq
  have right := overP hm.1 y.2 hr
  rw [x.1]
  simp only
  rw [left.1, y.1]
  simp only
  rw [right.1]
  simp only [Bool.not_true, cond_false]
  have m0 : 1 ≤ m := by omega
  have lv := left.2
  have rv := right.2
  have pa : 0 ≤ aa ∧ aa ≤ m := ⟨by have := hp.l0; have := hp.u0; omega, by have := hp.af; have := hp.fm; omega⟩
  have pf : 0 ≤ af ∧ af ≤ m := ⟨by have := hp.af; omega, hp.fm⟩
  have ra : 0 ≤ ca ∧ ca ≤ m := ⟨by have := hr.l0; have := hr.u0; omega, by have := hr.af; have := hr.fm; omega⟩
  have rc (z : Int) (h0 : 0 ≤ z) (h1 : z ≤ ca) : 0 ≤ z ∧ z ≤ m := by omega
  have r0 := rc c0 hr.l0 hr.u0
  have r1 := rc c1 hr.l1 hr.u1
  have r2 := rc c2 hr.l2 hr.u2
  have rf : 0 ≤ cf ∧ cf ≤ m := ⟨by have := hr.af; omega, hr.fm⟩
  have k0 := ov_assoc (p := a0) (q := b0) (qw := ba) m0 pa.1 pa.2 r0.1 r0.2
  have k1 := ov_assoc (p := a1) (q := b1) (qw := ba) m0 pa.1 pa.2 r1.1 r1.2
  have k2 := ov_assoc (p := a2) (q := b2) (qw := ba) m0 pa.1 pa.2 r2.1 r2.2
  have ka := ov_assoc (p := aa) (q := ba) (qw := ba) m0 pa.1 pa.2 ra.1 ra.2
  have kf := ov_assoc (p := af) (q := bf) (qw := bf) m0 pf.1 pf.2 rf.1 rf.2
  have crisp : (aa = 0 ∨ aa = m) ∧ af = aa → ov a0 aa (ov b0 ba c0 m) m = ov (ov a0 aa b0 m) (ov aa aa ba m) c0 m ∧ ov a1 aa (ov b1 ba c1 m) m = ov (ov a1 aa b1 m) (ov aa aa ba m) c1 m ∧ ov a2 aa (ov b2 ba c2 m) m = ov (ov a2 aa b2 m) (ov aa aa ba m) c2 m ∧
      ov aa aa (ov ba ba ca m) m = ov (ov aa aa ba m) (ov aa aa ba m) ca m ∧ ov af af (ov bf bf cf m) m = ov (ov af af bf m) (ov af af bf m) cf m := by
    intro ⟨h, hf⟩
    subst hf
    have z (t : Int) (h0 : 0 ≤ t) (h1 : t ≤ af) : (af = 0 ∧ t = 0) ∨ af = m := by omega
    exact ⟨ov_crisp m0 (z _ hp.l0 hp.u0), ov_crisp m0 (z _ hp.l1 hp.u1), ov_crisp m0 (z _ hp.l2 hp.u2), ov_crisp m0 (z _ pf.1 (Int.le_refl _)), ov_crisp m0 (z _ pf.1 (Int.le_refl _))⟩
  obtain ⟨ll0, ll1, ll2, lu0, lu1, lu2, laf, lfm⟩ := lv
  obtain ⟨rl0, rl1, rl2, ru0, ru1, ru2, raf, rfm⟩ := rv
  generalize ov a0 aa (ov b0 ba c0 m) m = L0 at *
  generalize ov a1 aa (ov b1 ba c1 m) m = L1 at *
  generalize ov a2 aa (ov b2 ba c2 m) m = L2 at *
  generalize ov aa aa (ov ba ba ca m) m = LA at *
  generalize ov af af (ov bf bf cf m) m = LF at *
  generalize ov (ov a0 aa b0 m) (ov aa aa ba m) c0 m = R0 at *
  generalize ov (ov a1 aa b1 m) (ov aa aa ba m) c1 m = R1 at *
  generalize ov (ov a2 aa b2 m) (ov aa aa ba m) c2 m = R2 at *
  generalize ov (ov aa aa ba m) (ov aa aa ba m) ca m = RA at *
  generalize ov (ov af af bf m) (ov af af bf m) cf m = RF at *
  have j0 := apart_le (x := L0) (y := R0) ⟨by omega, by omega⟩ ⟨by omega, by omega⟩ k0.1 k0.2
  have j1 := apart_le (x := L1) (y := R1) ⟨by omega, by omega⟩ ⟨by omega, by omega⟩ k1.1 k1.2
  have j2 := apart_le (x := L2) (y := R2) ⟨by omega, by omega⟩ ⟨by omega, by omega⟩ k2.1 k2.2
  have ja := apart_le (x := LA) (y := RA) ⟨by omega, by omega⟩ ⟨by omega, by omega⟩ ka.1 ka.2
  have jf := apart_le (x := LF) (y := RF) ⟨by omega, by omega⟩ ⟨by omega, by omega⟩ kf.1 kf.2
  have hW := max2_le (max2_le (max2_le (max2_le ja.1 jf.1) j0.1) j1.1) j2.1
  have hC : (aa = 0 ∨ aa = m) ∧ af = aa → F_law09_max2 (F_law09_max2 (F_law09_max2 (F_law09_max2 (F_law09_apart LA RA) (F_law09_apart LF RF)) (F_law09_apart L0 R0)) (F_law09_apart L1 R1)) (F_law09_apart L2 R2) = 0 := fun h => by
    have c := crisp h
    rw [ja.2 c.2.2.2.1, jf.2 c.2.2.2.2, j0.2 c.1, j1.2 c.2.1, j2.2 c.2.2.1]
    simp [F_law09_max2_eq]
  generalize F_law09_max2 (F_law09_max2 (F_law09_max2 (F_law09_max2 (F_law09_apart LA RA) (F_law09_apart LF RF)) (F_law09_apart L0 R0)) (F_law09_apart L1 R1)) (F_law09_apart L2 R2) = W at *
  simp only [decide_eq_true hW, cond_true]
  clear k0 k1 k2 ka kf j0 j1 j2 ja jf crisp
  by_cases h1 : af = aa
  · by_cases h2 : aa = 0
    · have hw := hC ⟨.inl h2, h1⟩
      simp [hw]
    · by_cases h3 : aa = m
      · have hw := hC ⟨.inr h3, h1⟩
        simp [hw]
      · simp [h2, h3]
  · simp [h1]
end Go.Proofs.YtnfloafopnldpaaDoor
