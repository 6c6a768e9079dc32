/- Pixels: validity, and the composite of two pixels, as whole numbers. -/
import Derived.Test.YtdioaiepkhepaaaDoorOps9
import Derived.Test.YtdioaiepkhepaaaDoorSm09
namespace Go.Proofs.YtdioaiepkhepaaaDoor
open Go.RowKit

def VP (c0 c1 c2 a f m : Int) : Prop := c0 ≤ a ∧ c1 ≤ a ∧ c2 ≤ a ∧ a ≤ f ∧ f ≤ m
instance (c0 c1 c2 a f m : Int) : Decidable (VP c0 c1 c2 a f m) := by unfold VP; infer_instance
theorem pValid (c0 c1 c2 a f m : Int) : F_sample_Valid c0 c1 c2 a f m = decide (VP c0 c1 c2 a f m) := by
  rw [F_sample_Valid_eq]
  simp only [bif_ite]
  by_cases h : VP c0 c1 c2 a f m
  · rw [decide_eq_true h]
    obtain ⟨h1, h2, h3, h4, h5⟩ := h
    have e1 : ¬ c0 > a := by omega
    have e2 : ¬ c1 > a := by omega
    have e3 : ¬ c2 > a := by omega
    simp [e1, e2, e3, h4, h5]
  · rw [decide_eq_false h]
    unfold VP at h
    repeat' split
    all_goals first | rfl | (simp; omega)
theorem rValidP (c0 c1 c2 a f m : Int) : F_ref01_ValidPixel c0 c1 c2 a f m = decide (VP c0 c1 c2 a f m) := by
  rw [F_ref01_ValidPixel_eq]
  simp only [bif_ite]
  by_cases h : VP c0 c1 c2 a f m
  · rw [decide_eq_true h]
    obtain ⟨h1, h2, h3, h4, h5⟩ := h
    simp [h1, h2, h3, h4, h5]
  · rw [decide_eq_false h]
    unfold VP at h
    repeat' split
    all_goals first | rfl | (simp; omega)
section
variable {o a b m : Int} (a1 : Is16 a) (b1 : Is16 b) (m1 : Is16 m) (m0 : 1 ≤ m)
include a1 b1 m1 m0
end

/-- A valid pixel of samples that are not negative. -/
structure PV (c0 c1 c2 a f m : Int) : Prop where
  l0 : 0 ≤ c0
  l1 : 0 ≤ c1
  l2 : 0 ≤ c2
  u0 : c0 ≤ a
  u1 : c1 ≤ a
  u2 : c2 ≤ a
  af : a ≤ f
  fm : f ≤ m
theorem PV.vp {c0 c1 c2 a f m : Int} (h : PV c0 c1 c2 a f m) : VP c0 c1 c2 a f m := ⟨h.u0, h.u1, h.u2, h.af, h.fm⟩
theorem PV.zero {m : Int} (h : 0 ≤ m) : PV 0 0 0 0 0 m := ⟨by decide, by decide, by decide, by decide, by decide, by decide, by decide, h⟩
structure P16 (c0 c1 c2 a f : Int) : Prop where
  c0 : Is16 c0
  c1 : Is16 c1
  c2 : Is16 c2
  a : Is16 a
  f : Is16 f
theorem P16.pv {c0 c1 c2 a f m : Int} (p : P16 c0 c1 c2 a f) (h : VP c0 c1 c2 a f m) : PV c0 c1 c2 a f m := ⟨p.c0.1, p.c1.1, p.c2.1, h.1, h.2.1, h.2.2.1, h.2.2.2.1, h.2.2.2.2⟩
theorem PV.p16 {c0 c1 c2 a f m : Int} (h : PV c0 c1 c2 a f m) (hm : m ≤ 65535) : P16 c0 c1 c2 a f := by
  obtain ⟨l0, l1, l2, u0, u1, u2, af, fm⟩ := h
  exact ⟨⟨l0, by omega⟩, ⟨l1, by omega⟩, ⟨l2, by omega⟩, ⟨by omega, by omega⟩, ⟨by omega, by omega⟩⟩
theorem gPixelV (x y z v w : Int) {m : Int} (h0 : 0 ≤ m) (h1 : m ≤ 65535) : PV (F_gen_Pixel x y z v w m).1 (F_gen_Pixel x y z v w m).2.1 (F_gen_Pixel x y z v w m).2.2.1 (F_gen_Pixel x y z v w m).2.2.2.1 (F_gen_Pixel x y z v w m).2.2.2.2 m := by
  have f := gSampleM w h0 h1
  rw [F_gen_Pixel_eq]
  simp only
  cases decide (F_gen_Mod v 3 > 0)
  · have a := gSampleM x f.1 (Int.le_trans f.2 h1)
    have b := gSampleM y f.1 (Int.le_trans f.2 h1)
    have c := gSampleM z f.1 (Int.le_trans f.2 h1)
    simp only [cond_false]
    exact ⟨a.1, b.1, c.1, a.2, b.2, c.2, Int.le_refl _, f.2⟩
  · have g := gSampleM (IntKind.i64.wrap (Int.tdiv v 3)) f.1 (Int.le_trans f.2 h1)
    have g2 := Int.le_trans g.2 (Int.le_trans f.2 h1)
    have a := gSampleM x g.1 g2
    have b := gSampleM y g.1 g2
    have c := gSampleM z g.1 g2
    simp only [cond_true]
    exact ⟨a.1, b.1, c.1, a.2, b.2, c.2, g.2, f.2⟩

/-! The composite of pixels. -/
def CVP (o k m s0 s1 s2 a f d0 d1 d2 b g : Int) : Prop := (1 ≤ o ∧ o ≤ 12) ∧ (1 ≤ k ∧ k ≤ 12) ∧ (m = 255 ∨ m = 65535) ∧ VP s0 s1 s2 a f m ∧ VP d0 d1 d2 b g m
instance (o k m s0 s1 s2 a f d0 d1 d2 b g : Int) : Decidable (CVP o k m s0 s1 s2 a f d0 d1 d2 b g) := by unfold CVP; infer_instance
noncomputable def compZ (o k m s0 s1 s2 a f d0 d1 d2 b g : Int) : Int × Int × Int × Int × Int × Bool := (mixH o k m s0 a d0 b, mixH o k m s1 a d1 b, mixH o k m s2 a d2 b, alphaZ o a b m, shapeZ o f g m, true)
section
variable {o k m s0 s1 s2 a f d0 d1 d2 b g : Int} (m1 : Is16 m) (s : P16 s0 s1 s2 a f) (d : P16 d0 d1 d2 b g)
include m1 s d
end
section
variable {o k m s0 s1 s2 a f d0 d1 d2 b g : Int} (hm : m = 255 ∨ m = 65535) (ho : 1 ≤ o ∧ o ≤ 12) (hk : 1 ≤ k ∧ k ≤ 12) (s : PV s0 s1 s2 a f m) (d : PV d0 d1 d2 b g m)
include hm ho hk s d
theorem comp_valid : PV (mixH o k m s0 a d0 b) (mixH o k m s1 a d1 b) (mixH o k m s2 a d2 b) (alphaZ o a b m) (shapeZ o f g m) m := by
  have sp := s.p16 (show m ≤ 65535 by omega)
  have dp := d.p16 (show m ≤ 65535 by omega)
  have m1 : Is16 m := ⟨by omega, by omega⟩
  have am : a ≤ m := Int.le_trans s.af s.fm
  have bm : b ≤ m := Int.le_trans d.af d.fm
  have h0 := mixH_le m1 sp.c0 sp.a dp.c0 dp.a ⟨ho, hk, s.u0, d.u0, am, bm, hm⟩
  have h1 := mixH_le m1 sp.c1 sp.a dp.c1 dp.a ⟨ho, hk, s.u1, d.u1, am, bm, hm⟩
  have h2 := mixH_le m1 sp.c2 sp.a dp.c2 dp.a ⟨ho, hk, s.u2, d.u2, am, bm, hm⟩
  have h3 := alpha_le_shape (show 1 ≤ m by omega) sp.a.1 s.af s.fm dp.a.1 d.af d.fm ho
  have h4 := shapeZ_bd (o := o) sp.f dp.f m1 (by omega) s.fm d.fm
  exact ⟨h0.1, h1.1, h2.1, h0.2, h1.2, h2.2, h3, h4.2⟩
end
end Go.Proofs.YtdioaiepkhepaaaDoor
