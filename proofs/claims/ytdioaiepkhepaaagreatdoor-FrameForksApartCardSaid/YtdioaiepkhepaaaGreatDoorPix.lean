/- Pixels: validity, and the composite of two pixels, as whole numbers. -/
import Derived.Test.YtdioaiepkhepaaaGreatDoorOps9
import Derived.Test.YtdioaiepkhepaaaGreatDoorSm09
namespace Go.Proofs.YtdioaiepkhepaaaGreatDoor
open Go.RowKit
def VP (c0 c1 c2 a f m : Int) : Prop := c0 ≤ a ∧ c1 ≤ a ∧ c2 ≤ a ∧ a ≤ f ∧ f ≤ m
instance (c0 c1 c2 a f m : Int) : Decidable (VP c0 c1 c2 a f m) := by unfold VP; infer_instance
theorem pValid (c0 c1 c2 a f m : Int) : F_sample_Valid c0 c1 c2 a f m = decide (VP c0 c1 c2 a f m) := by
 rw [F_sample_Valid_eq]
 simp only [bif_ite]
 by_cases h : VP c0 c1 c2 a f m
 ·rw [decide_eq_true h]
  obtain ⟨h1, h2, h3, h4, h5⟩ := h
  have e1 : ¬ c0 > a := by omega
  have e2 : ¬ c1 > a := by omega
  have e3 : ¬ c2 > a := by omega
  simp [e1, e2, e3, h4, h5]
 ·rw [decide_eq_false h]
  unfold VP at h
  repeat' split
  all_goals first | rfl | (simp; omega)
theorem rValidP (c0 c1 c2 a f m : Int) : F_r1_ValidPixel c0 c1 c2 a f m = decide (VP c0 c1 c2 a f m) := by
 rw [F_r1_ValidPixel_eq]
 simp only [bif_ite]
 by_cases h : VP c0 c1 c2 a f m
 ·rw [decide_eq_true h]
  obtain ⟨h1, h2, h3, h4, h5⟩ := h
  simp [h1, h2, h3, h4, h5]
 ·rw [decide_eq_false h]
  unfold VP at h
  repeat' split
  all_goals first | rfl | (simp; omega)
section
variable {o a b m : Int} (a1 : Is16 a) (b1 : Is16 b) (m1 : Is16 m) (m0 : 1 ≤ m)
include a1 b1 m1 m0
theorem rAlpha (h : FV o a b m) : F_r6_Alpha o a b m = alphaZ o a b m := by
 have hf := facZ_bd a1 b1 m1 h
 have hs := facZ_sum a1 b1 m1 h
 have m2 := m1.2
 have ha := pAlpha a1 b1 m1 m0 h
 have mm := mulB m1.1 m2 m1.1 m2
 rw [F_r6_Alpha_eq, rFactors a1 b1 m1, if_pos h]
 simp only
 rw [u64_in (x := (facZ o a b m).1 * a) hs.1 (by omega), u64_in (x := (facZ o a b m).2 * b) hs.2.1 (by omega), u64_in (x := (facZ o a b m).1 * a + (facZ o a b m).2 * b) (by omega) (by omega), rHalf (by omega) (by omega) m0 (by omega)]
 exact u16_in ha.2.1 (Int.le_trans ha.2.2 m2)
theorem rShape (h : FV o a b m) : F_r6_Shape o a b m = shapeZ o a b m := by
 have ⟨a0, a2⟩ := a1
 have ⟨b0, b2⟩ := b1
 have ⟨_, m2⟩ := m1
 obtain ⟨ho, ha, hb⟩ := h
 have e1 : ¬ a > m := by omega
 have e2 : ¬ b > m := by omega
 have hu := pSum (x := m) (p := a) (y := m - a) (q := b) m1 a1 ⟨by omega, by omega⟩ b1 m0 m1.2 (union_bd ha hb)
 have hp := pSum (x := a) (p := b) (y := 0) (q := 0) a1 b1 zero16 zero16 m0 m1.2 (prod_bd a1.1 b1.1 ha hb)
 have e4 : a * b + 0 * 0 = a * b := by omega
 rw [e4] at hp
 have x1 := mulB m1.1 m2 a0 a2
 have x2 := mulB (show 0 ≤ m - a by omega) (show m - a ≤ 65535 by omega) b0 b2
 have x3 := mulB a0 a2 b0 b2
 have w1 : IntKind.u64.wrap (IntKind.u64.wrap (m * a) + IntKind.u64.wrap (IntKind.u64.wrap (m - a) * b)) = m * a + (m - a) * b := by
  rw [u64_in (x := m * a) x1.1 (by omega), u64_in (x := m - a) (by omega) (by omega), u64_in (x := (m - a) * b) x2.1 (by omega), u64_in (by omega) (by omega)]
 have v1 : IntKind.u16.wrap (F_r1_Half (m * a + (m - a) * b) m) = hv (m * a + (m - a) * b) 0 m := by
  rw [rHalf (by omega) (by omega) m0 (by omega)]
  exact u16_in hu.2.1 (by have := hu.2.2; omega)
 have v2 : IntKind.u16.wrap (F_r1_Half (a * b) m) = hv (a * b) 0 m := by
  rw [rHalf (by omega) (by omega) m0 (by omega)]
  exact u16_in hp.2.1 (by have := hp.2.2; omega)
 rw [F_r6_Shape_eq, rIsOp]
 simp only [decide_eq_true ho, decide_eq_false e1, decide_eq_false e2, Bool.not_true, cond_false, w1, u64_in (x := a * b) x3.1 (show a * b < 18446744073709551616 by omega), v1, v2]
 rcases ops12 ho with rfl | rfl | rfl | rfl | rfl | rfl | rfl | rfl | rfl | rfl | rfl | rfl <;> rfl
end
structure PV (c0 c1 c2 a f m : Int) : Prop where
 l0 : 0 ≤ c0
 l1 : 0 ≤ c1
 l2 : 0 ≤ c2
 u0 : c0 ≤ a
 u1 : c1 ≤ a
 u2 : c2 ≤ a
 af : a ≤ f
 fm : f ≤ m
theorem PV.vp {c0 c1 c2 a f m : Int} (h : PV c0 c1 c2 a f m) : VP c0 c1 c2 a f m := ⟨h.u0, h.u1, h.u2, h.af, h.fm⟩
theorem PV.zero {m : Int} (h : 0 ≤ m) : PV 0 0 0 0 0 m := ⟨by decide, by decide, by decide, by decide, by decide, by decide, by decide, h⟩
structure P16 (c0 c1 c2 a f : Int) : Prop where
 c0 : Is16 c0
 c1 : Is16 c1
 c2 : Is16 c2
 a : Is16 a
 f : Is16 f
theorem P16.pv {c0 c1 c2 a f m : Int} (p : P16 c0 c1 c2 a f) (h : VP c0 c1 c2 a f m) : PV c0 c1 c2 a f m := ⟨p.c0.1, p.c1.1, p.c2.1, h.1, h.2.1, h.2.2.1, h.2.2.2.1, h.2.2.2.2⟩
theorem PV.p16 {c0 c1 c2 a f m : Int} (h : PV c0 c1 c2 a f m) (hm : m ≤ 65535) : P16 c0 c1 c2 a f := by
 obtain ⟨l0, l1, l2, u0, u1, u2, af, fm⟩ := h
 exact ⟨⟨l0, by omega⟩, ⟨l1, by omega⟩, ⟨l2, by omega⟩, ⟨by omega, by omega⟩, ⟨by omega, by omega⟩⟩
theorem gPixelV (x y z v w : Int) {m : Int} (h0 : 0 ≤ m) (h1 : m ≤ 65535) : PV (F_gen_Pixel x y z v w m).1 (F_gen_Pixel x y z v w m).2.1 (F_gen_Pixel x y z v w m).2.2.1 (F_gen_Pixel x y z v w m).2.2.2.1 (F_gen_Pixel x y z v w m).2.2.2.2 m := by
 have f := gSampleM w h0 h1
 rw [F_gen_Pixel_eq]
 simp only
 cases decide (F_gen_Mod v 3 > 0)
 ·have a := gSampleM x f.1 (Int.le_trans f.2 h1)
  have b := gSampleM y f.1 (Int.le_trans f.2 h1)
  have c := gSampleM z f.1 (Int.le_trans f.2 h1)
  simp only [cond_false]
  exact ⟨a.1, b.1, c.1, a.2, b.2, c.2, Int.le_refl _, f.2⟩
 ·have g := gSampleM (IntKind.i64.wrap (Int.tdiv v 3)) f.1 (Int.le_trans f.2 h1)
  have g2 := Int.le_trans g.2 (Int.le_trans f.2 h1)
  have a := gSampleM x g.1 g2
  have b := gSampleM y g.1 g2
  have c := gSampleM z g.1 g2
  simp only [cond_true]
  exact ⟨a.1, b.1, c.1, a.2, b.2, c.2, g.2, f.2⟩
def CVP (o k m s0 s1 s2 a f d0 d1 d2 b g : Int) : Prop := (1 ≤ o ∧ o ≤ 12) ∧ (1 ≤ k ∧ k ≤ 12) ∧ (m = 255 ∨ m = 65535) ∧ VP s0 s1 s2 a f m ∧ VP d0 d1 d2 b g m
instance (o k m s0 s1 s2 a f d0 d1 d2 b g : Int) : Decidable (CVP o k m s0 s1 s2 a f d0 d1 d2 b g) := by unfold CVP; infer_instance
section
variable {o k m s0 s1 s2 a f d0 d1 d2 b g : Int} (m1 : Is16 m) (s : P16 s0 s1 s2 a f) (d : P16 d0 d1 d2 b g)
include m1 s d
end
section
variable {o k m s0 s1 s2 a f d0 d1 d2 b g : Int} (hm : m = 255 ∨ m = 65535) (ho : 1 ≤ o ∧ o ≤ 12) (hk : 1 ≤ k ∧ k ≤ 12) (s : PV s0 s1 s2 a f m) (d : PV d0 d1 d2 b g m)
include hm ho hk s d
end
end Go.Proofs.YtdioaiepkhepaaaGreatDoor
