/- Pixels: validity, and the composite of two pixels, as whole numbers. -/
import Derived.Test.YtfjhhadmncjdiaaGreatDoorOps9
import Derived.Test.YtfjhhadmncjdiaaGreatDoorSm09
namespace Go.Proofs.YtfjhhadmncjdiaaGreatDoor
open Go.RowKit

def VP (c0 c1 c2 a f m : Int) : Prop := c0 ≤ a ∧ c1 ≤ a ∧ c2 ≤ a ∧ a ≤ f ∧ f ≤ m
instance (c0 c1 c2 a f m : Int) : Decidable (VP c0 c1 c2 a f m) := by unfold VP; infer_instance
theorem pValid (c0 c1 c2 a f m : Int) : F_sample_Valid c0 c1 c2 a f m = decide (VP c0 c1 c2 a f m) := by
  rw [F_sample_Valid_eq]
  simp only [bif_ite]
  by_cases h : VP c0 c1 c2 a f m
  · rw [decide_eq_true h]
    obtain ⟨h1, h2, h3, h4, h5⟩ := h
    have e1 : ¬ c0 > a := by omega
    have e2 : ¬ c1 > a := by omega
    have e3 : ¬ c2 > a := by omega
    simp [e1, e2, e3, h4, h5]
  · rw [decide_eq_false h]
    unfold VP at h
    repeat' split
    all_goals first | rfl | (simp; omega)
theorem rValidP (c0 c1 c2 a f m : Int) : F_ref01_ValidPixel c0 c1 c2 a f m = decide (VP c0 c1 c2 a f m) := by
  rw [F_ref01_ValidPixel_eq]
  simp only [bif_ite]
  by_cases h : VP c0 c1 c2 a f m
  · rw [decide_eq_true h]
    obtain ⟨h1, h2, h3, h4, h5⟩ := h
    simp [h1, h2, h3, h4, h5]
  · rw [decide_eq_false h]
    unfold VP at h
    repeat' split
    all_goals first | rfl | (simp; omega)
section
variable {o a b m : Int} (a1 : Is16 a) (b1 : Is16 b) (m1 : Is16 m) (m0 : 1 ≤ m)
include a1 b1 m1 m0
theorem rAlpha (h : FV o a b m) : F_ref06_Alpha o a b m = alphaZ o a b m := by
  have hf := facZ_bd a1 b1 m1 h
  have hs := facZ_sum a1 b1 m1 h
  have m2 := m1.2
  have ha := pAlpha a1 b1 m1 m0 h
  have mm := mulB m1.1 m2 m1.1 m2
  rw [F_ref06_Alpha_eq, rFactors a1 b1 m1, if_pos h]
  simp only
  rw [u64_in (x := (facZ o a b m).1 * a) hs.1 (by omega), u64_in (x := (facZ o a b m).2 * b) hs.2.1 (by omega), u64_in (x := (facZ o a b m).1 * a + (facZ o a b m).2 * b) (by omega) (by omega), rHalf (by omega) (by omega) m0 (by omega)]
  exact u16_in ha.2.1 (Int.le_trans ha.2.2 m2)
theorem rShape (h : FV o a b m) : F_ref06_Shape o a b m = shapeZ o a b m := by
  have ⟨a0, a2⟩ := a1
  have ⟨b0, b2⟩ := b1
  have ⟨_, m2⟩ := m1
  obtain ⟨ho, ha, hb⟩ := h
  have e1 : ¬ a > m := by omega
  have e2 : ¬ b > m := by omega
  have hu := pSum (x := m) (p := a) (y := m - a) (q := b) m1 a1 ⟨by omega, by omega⟩ b1 m0 m1.2 (union_bd ha hb)
  have hp := pSum (x := a) (p := b) (y := 0) (q := 0) a1 b1 zero16 zero16 m0 m1.2 (prod_bd a1.1 b1.1 ha hb)
  have e4 : a * b + 0 * 0 = a * b := by omega
  rw [e4] at hp
  have x1 := mulB m1.1 m2 a0 a2
  have x2 := mulB (show 0 ≤ m - a by omega) (show m - a ≤ 65535 by omega) b0 b2
  have x3 := mulB a0 a2 b0 b2
  have w1 : IntKind.u64.wrap (IntKind.u64.wrap (m * a) + IntKind.u64.wrap (IntKind.u64.wrap (m - a) * b)) = m * a + (m - a) * b := by
    rw [u64_in (x := m * a) x1.1 (by omega), u64_in (x := m - a) (by omega) (by omega), u64_in (x := (m - a) * b) x2.1 (by omega), u64_in (by omega) (by omega)]
  have v1 : IntKind.u16.wrap (F_ref01_Half (m * a + (m - a) * b) m) = hv (m * a + (m - a) * b) 0 m := by
    rw [rHalf (by omega) (by omega) m0 (by omega)]
    exact u16_in hu.2.1 (by have := hu.2.2; omega)
  have v2 : IntKind.u16.wrap (F_ref01_Half (a * b) m) = hv (a * b) 0 m := by
    rw [rHalf (by omega) (by omega) m0 (by omega)]
    exact u16_in hp.2.1 (by have := hp.2.2; omega)
  rw [F_ref06_Shape_eq, rIsOp]
  simp only [decide_eq_true ho, decide_eq_false e1, decide_eq_false e2, Bool.not_true, cond_false, w1, u64_in (x := a * b) x3.1 (show a * b < 18446744073709551616 by omega), v1, v2]
  rcases ops12 ho with rfl | rfl | rfl | rfl | rfl | rfl | rfl | rfl | rfl | rfl | rfl | rfl <;> rfl
end

/-- A valid pixel of samples that are not negative. -/
structure PV (c0 c1 c2 a f m : Int) : Prop where
  l0 : 0 ≤ c0
  l1 : 0 ≤ c1
  l2 : 0 ≤ c2
  u0 : c0 ≤ a
  u1 : c1 ≤ a
  u2 : c2 ≤ a
  af : a ≤ f
  fm : f ≤ m
theorem PV.vp {c0 c1 c2 a f m : Int} (h : PV c0 c1 c2 a f m) : VP c0 c1 c2 a f m := ⟨h.u0, h.u1, h.u2, h.af, h.fm⟩
theorem PV.zero {m : Int} (h : 0 ≤ m) : PV 0 0 0 0 0 m := ⟨by decide, by decide, by decide, by decide, by decide, by decide, by decide, h⟩
structure P16 (c0 c1 c2 a f : Int) : Prop where
  c0 : Is16 c0
  c1 : Is16 c1
  c2 : Is16 c2
  a : Is16 a
  f : Is16 f
theorem P16.pv {c0 c1 c2 a f m : Int} (p : P16 c0 c1 c2 a f) (h : VP c0 c1 c2 a f m) : PV c0 c1 c2 a f m := ⟨p.c0.1, p.c1.1, p.c2.1, h.1, h.2.1, h.2.2.1, h.2.2.2.1, h.2.2.2.2⟩
theorem PV.p16 {c0 c1 c2 a f m : Int} (h : PV c0 c1 c2 a f m) (hm : m ≤ 65535) : P16 c0 c1 c2 a f := by
  obtain ⟨l0, l1, l2, u0, u1, u2, af, fm⟩ := h
  exact ⟨⟨l0, by omega⟩, ⟨l1, by omega⟩, ⟨l2, by omega⟩, ⟨by omega, by omega⟩, ⟨by omega, by omega⟩⟩
theorem gPixelV (x y z v w : Int) {m : Int} (h0 : 0 ≤ m) (h1 : m ≤ 65535) : PV (F_gen_Pixel x y z v w m).1 (F_gen_Pixel x y z v w m).2.1 (F_gen_Pixel x y z v w m).2.2.1 (F_gen_Pixel x y z v w m).2.2.2.1 (F_gen_Pixel x y z v w m).2.2.2.2 m := by
  have f := gSampleM w h0 h1
  rw [F_gen_Pixel_eq]
  simp only
  cases decide (F_gen_Mod v 3 > 0)
  · have a := gSampleM x f.1 (Int.le_trans f.2 h1)
    have b := gSampleM y f.1 (Int.le_trans f.2 h1)
    have c := gSampleM z f.1 (Int.le_trans f.2 h1)
    simp only [cond_false]
    exact ⟨a.1, b.1, c.1, a.2, b.2, c.2, Int.le_refl _, f.2⟩
  · have g := gSampleM (IntKind.i64.wrap (Int.tdiv v 3)) f.1 (Int.le_trans f.2 h1)
    have g2 := Int.le_trans g.2 (Int.le_trans f.2 h1)
    have a := gSampleM x g.1 g2
    have b := gSampleM y g.1 g2
    have c := gSampleM z g.1 g2
    simp only [cond_true]
    exact ⟨a.1, b.1, c.1, a.2, b.2, c.2, g.2, f.2⟩

/-! The composite of pixels. -/
def CVP (o k m s0 s1 s2 a f d0 d1 d2 b g : Int) : Prop := (1 ≤ o ∧ o ≤ 12) ∧ (1 ≤ k ∧ k ≤ 12) ∧ (m = 255 ∨ m = 65535) ∧ VP s0 s1 s2 a f m ∧ VP d0 d1 d2 b g m
instance (o k m s0 s1 s2 a f d0 d1 d2 b g : Int) : Decidable (CVP o k m s0 s1 s2 a f d0 d1 d2 b g) := by unfold CVP; infer_instance
noncomputable def compZ (o k m s0 s1 s2 a f d0 d1 d2 b g : Int) : Int × Int × Int × Int × Int × Bool := (mixH o k m s0 a d0 b, mixH o k m s1 a d1 b, mixH o k m s2 a d2 b, alphaZ o a b m, shapeZ o f g m, true)
theorem rejS {o k m s0 s1 s2 a f d0 d1 d2 b g : Int} (h : ¬ VP s0 s1 s2 a f m) : F_pixel_Composite o k m s0 s1 s2 a f d0 d1 d2 b g = (0, 0, 0, 0, 0, false) := by
  rw [F_pixel_Composite_eq]
  simp only [pValid, decide_eq_false h, Bool.not_false, cond_true, Bool.cond_self]
theorem rejD {o k m s0 s1 s2 a f d0 d1 d2 b g : Int} (h : ¬ VP d0 d1 d2 b g m) : F_pixel_Composite o k m s0 s1 s2 a f d0 d1 d2 b g = (0, 0, 0, 0, 0, false) := by
  rw [F_pixel_Composite_eq]
  simp only [pValid, decide_eq_false h, Bool.not_false, cond_true, Bool.cond_self]
section
variable {o k m s0 s1 s2 a f d0 d1 d2 b g : Int} (m1 : Is16 m) (s : P16 s0 s1 s2 a f) (d : P16 d0 d1 d2 b g)
include m1 s d
theorem pComp : F_pixel_Composite o k m s0 s1 s2 a f d0 d1 d2 b g = if CVP o k m s0 s1 s2 a f d0 d1 d2 b g then compZ o k m s0 s1 s2 a f d0 d1 d2 b g else (0, 0, 0, 0, 0, false) := by
  by_cases hs : VP s0 s1 s2 a f m
  · by_cases hd : VP d0 d1 d2 b g m
    · rw [F_pixel_Composite_eq]
      simp only [pValid, decide_eq_true hs, decide_eq_true hd, Bool.not_true, cond_false, pColor m1 s.c0 s.a d.c0 d.a, pColor m1 s.c1 s.a d.c1 d.a, pColor m1 s.c2 s.a d.c2 d.a]
      by_cases hm : m = 255 ∨ m = 65535
      · have m0 : 1 ≤ m := by omega
        have am : a ≤ m := Int.le_trans hs.2.2.2.1 hs.2.2.2.2
        have bm : b ≤ m := Int.le_trans hd.2.2.2.1 hd.2.2.2.2
        by_cases ho : (1 ≤ o ∧ o ≤ 12) ∧ (1 ≤ k ∧ k ≤ 12)
        · have v0 : MV o k m s0 a d0 b := ⟨ho.1, ho.2, hs.1, hd.1, am, bm, hm⟩
          have v1 : MV o k m s1 a d1 b := ⟨ho.1, ho.2, hs.2.1, hd.2.1, am, bm, hm⟩
          have v2 : MV o k m s2 a d2 b := ⟨ho.1, ho.2, hs.2.2.1, hd.2.2.1, am, bm, hm⟩
          rw [if_pos v0, if_pos v1, if_pos v2, if_pos (show CVP o k m s0 s1 s2 a f d0 d1 d2 b g from ⟨ho.1, ho.2, hm, hs, hd⟩), (pAlpha (o := o) s.a d.a m1 m0 ⟨ho.1, am, bm⟩).1, pShape (o := o) s.f d.f m1 m0 ⟨ho.1, hs.2.2.2.2, hd.2.2.2.2⟩]
          unfold compZ
          rcases hm with rfl | rfl <;> simp
        · have n0 : ¬ MV o k m s0 a d0 b := fun h => ho ⟨h.1, h.2.1⟩
          have n1 : ¬ MV o k m s1 a d1 b := fun h => ho ⟨h.1, h.2.1⟩
          have n2 : ¬ MV o k m s2 a d2 b := fun h => ho ⟨h.1, h.2.1⟩
          rw [if_neg n0, if_neg n1, if_neg n2, if_neg (fun h : CVP o k m s0 s1 s2 a f d0 d1 d2 b g => ho ⟨h.1, h.2.1⟩)]
          rcases hm with rfl | rfl <;> rfl
      · have n0 : ¬ MV o k m s0 a d0 b := fun h => hm h.2.2.2.2.2.2
        have n1 : ¬ MV o k m s1 a d1 b := fun h => hm h.2.2.2.2.2.2
        have n2 : ¬ MV o k m s2 a d2 b := fun h => hm h.2.2.2.2.2.2
        rw [if_neg n0, if_neg n1, if_neg n2, if_neg (fun h : CVP o k m s0 s1 s2 a f d0 d1 d2 b g => hm h.2.2.1)]
        cases (m == 255) <;> cases (!(m == 65535)) <;> rfl
    · rw [rejD hd, if_neg (fun h => hd h.2.2.2.2)]
  · rw [rejS hs, if_neg (fun h => hs h.2.2.2.1)]
theorem rComp : F_ref06_Composite o k m s0 s1 s2 a f d0 d1 d2 b g = if CVP o k m s0 s1 s2 a f d0 d1 d2 b g then compZ o k m s0 s1 s2 a f d0 d1 d2 b g else (0, 0, 0, 0, 0, false) := by
  rw [F_ref06_Composite_eq]
  simp only [rIsOp, rIsMode, full_dec, rValidP, rColorM m1 s.c0 s.a d.c0 d.a, rColorM m1 s.c1 s.a d.c1 d.a, rColorM m1 s.c2 s.a d.c2 d.a, Bool.cond_not, bif_ite]
  by_cases h : CVP o k m s0 s1 s2 a f d0 d1 d2 b g
  · rw [if_pos h]
    obtain ⟨ho, hk, hm, hs, hd⟩ := h
    have m0 : 1 ≤ m := by omega
    have am : a ≤ m := Int.le_trans hs.2.2.2.1 hs.2.2.2.2
    have bm : b ≤ m := Int.le_trans hd.2.2.2.1 hd.2.2.2.2
    have v0 : MV o k m s0 a d0 b := ⟨ho, hk, hs.1, hd.1, am, bm, hm⟩
    have v1 : MV o k m s1 a d1 b := ⟨ho, hk, hs.2.1, hd.2.1, am, bm, hm⟩
    have v2 : MV o k m s2 a d2 b := ⟨ho, hk, hs.2.2.1, hd.2.2.1, am, bm, hm⟩
    rw [if_pos ho, if_pos hk, if_pos hm, if_pos hs, if_pos hd, if_pos v0, if_pos v1, if_pos v2, rAlpha (o := o) s.a d.a m1 m0 ⟨ho, am, bm⟩, rShape (o := o) s.f d.f m1 m0 ⟨ho, hs.2.2.2.2, hd.2.2.2.2⟩]
    rfl
  · rw [if_neg h]
    by_cases ho : 1 ≤ o ∧ o ≤ 12
    · by_cases hk : 1 ≤ k ∧ k ≤ 12
      · by_cases hm : m = 255 ∨ m = 65535
        · by_cases hs : VP s0 s1 s2 a f m
          · have hd : ¬ VP d0 d1 d2 b g m := fun hd => h ⟨ho, hk, hm, hs, hd⟩
            rw [if_pos ho, if_pos hk, if_pos hm, if_pos hs, if_neg hd]
          · rw [if_pos ho, if_pos hk, if_pos hm, if_neg hs]
        · rw [if_pos ho, if_pos hk, if_neg hm]
      · rw [if_pos ho, if_neg hk]
    · rw [if_neg ho]
end
section
variable {o k m s0 s1 s2 a f d0 d1 d2 b g : Int} (hm : m = 255 ∨ m = 65535) (ho : 1 ≤ o ∧ o ≤ 12) (hk : 1 ≤ k ∧ k ≤ 12) (s : PV s0 s1 s2 a f m) (d : PV d0 d1 d2 b g m)
include hm ho hk s d
theorem compV : F_pixel_Composite o k m s0 s1 s2 a f d0 d1 d2 b g = compZ o k m s0 s1 s2 a f d0 d1 d2 b g := by
  rw [pComp ⟨by omega, by omega⟩ (s.p16 (by omega)) (d.p16 (by omega)), if_pos ⟨ho, hk, hm, s.vp, d.vp⟩]
theorem comp_valid : PV (mixH o k m s0 a d0 b) (mixH o k m s1 a d1 b) (mixH o k m s2 a d2 b) (alphaZ o a b m) (shapeZ o f g m) m := by
  have sp := s.p16 (show m ≤ 65535 by omega)
  have dp := d.p16 (show m ≤ 65535 by omega)
  have m1 : Is16 m := ⟨by omega, by omega⟩
  have am : a ≤ m := Int.le_trans s.af s.fm
  have bm : b ≤ m := Int.le_trans d.af d.fm
  have h0 := mixH_le m1 sp.c0 sp.a dp.c0 dp.a ⟨ho, hk, s.u0, d.u0, am, bm, hm⟩
  have h1 := mixH_le m1 sp.c1 sp.a dp.c1 dp.a ⟨ho, hk, s.u1, d.u1, am, bm, hm⟩
  have h2 := mixH_le m1 sp.c2 sp.a dp.c2 dp.a ⟨ho, hk, s.u2, d.u2, am, bm, hm⟩
  have h3 := alpha_le_shape (show 1 ≤ m by omega) sp.a.1 s.af s.fm dp.a.1 d.af d.fm ho
  have h4 := shapeZ_bd (o := o) sp.f dp.f m1 (by omega) s.fm d.fm
  exact ⟨h0.1, h1.1, h2.1, h0.2, h1.2, h2.2, h3, h4.2⟩
end
end Go.Proofs.YtfjhhadmncjdiaaGreatDoor
