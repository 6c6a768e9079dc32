/- The statements of chapter 06, as plain laws of what the functions compute. -/
import Derived.Test.YtiooegkbkahppaaDoorSm06b
import Derived.Test.YtiooegkbkahppaaDoorMath06b
namespace Go.Proofs.YtiooegkbkahppaaDoor
open Go.RowKit

theorem wrap16 (x : Int) : Is16 (IntKind.u16.wrap x) := by
  obtain ⟨a, b⟩ := wrap_within .u16 x
  exact is16 a b
theorem zero16 : Is16 0 := ⟨by decide, by decide⟩
theorem gMax16 (x : Int) : Is16 (F_gen_Max x) := by
  rw [F_gen_Max_eq]
  simp only
  generalize (F_gen_Mod x 3 == 2) = c
  cases c <;> exact ⟨by decide, by decide⟩
theorem gSample16 (x : Int) {m : Int} (hm : Is16 m) : Is16 (F_gen_Sample x m) := by
  rw [F_gen_Sample_eq]
  simp only
  generalize (F_gen_Mod x 8 == 0) = c0
  generalize (F_gen_Mod x 8 == 1) = c1
  generalize (F_gen_Mod x 8 == 2) = c2
  generalize (F_gen_Mod x 8 == 3) = c3
  generalize (F_gen_Mod x 8 == 4) = c4
  cases c0
  · cases c1
    · cases c2
      · cases c3
        · cases c4
          · simp only [cond_false]; exact wrap16 _
          · simp only [cond_false, cond_true]; exact wrap16 _
        · simp only [cond_false, cond_true]; exact wrap16 _
      · exact hm
    · exact hm
  · exact zero16
theorem gAlpha16 (x y : Int) {m : Int} (hm : Is16 m) : Is16 (F_gen_Alpha x y m).1 ∧ Is16 (F_gen_Alpha x y m).2 := by
  rw [F_gen_Alpha_eq]
  simp only
  exact ⟨gSample16 _ (gSample16 _ hm), gSample16 _ hm⟩
theorem max16 {x y : Int} (hx : Is16 x) (hy : Is16 y) : Is16 (F_law06_max16 x y) := by
  rw [F_law06_max16_eq]
  cases decide (x > y) <;> assumption
theorem min16 {x y : Int} (hx : Is16 x) (hy : Is16 y) : Is16 (if y < x then y else x) := by split <;> assumption

theorem awake06 : F_law06_awake = true := by
  rw [F_law06_awake_eq]
  have e1 : F_blend_Straight 2 128 128 255 = (64, true) := by
    rw [F_blend_Straight_eq, bExact ⟨by decide, by decide⟩ ⟨by decide, by decide⟩ ⟨by decide, by decide⟩ ⟨by decide, by decide⟩]
    have : blendZ 2 128 255 128 255 = (0, 16384, 0, 0, 1, true) := by decide
    simp only [this]
    rw [sHalf ⟨by decide, by decide⟩ ⟨by decide, by decide⟩ ⟨by decide, by decide⟩ ⟨by decide, by decide⟩ ⟨by decide, by decide⟩]
    have i : isq (0 * 0 * 0) = 0 := isq_eq (by decide) (by decide) (by decide) (by decide)
    simp only [haE, flE, i]
    decide
  have e2 : F_blend_Straight 10 255 64 255 = (128, true) := by
    rw [F_blend_Straight_eq, bExact ⟨by decide, by decide⟩ ⟨by decide, by decide⟩ ⟨by decide, by decide⟩ ⟨by decide, by decide⟩]
    have : blendZ 10 255 255 64 255 = (0, 0, 255, 16320, 1, true) := by decide
    simp only [this]
    rw [sHalf ⟨by decide, by decide⟩ ⟨by decide, by decide⟩ ⟨by decide, by decide⟩ ⟨by decide, by decide⟩ ⟨by decide, by decide⟩]
    have i : isq (255 * 255 * 16320) = 32576 := isq_eq (by decide) (by decide) (by decide) (by decide)
    simp only [haE, flE, i]
    decide
  have e3 : F_blend_Exact 7 1 2 1 4 = (0, 4, 0, 0, 1, true) := by
    rw [bExact ⟨by decide, by decide⟩ ⟨by decide, by decide⟩ ⟨by decide, by decide⟩ ⟨by decide, by decide⟩]
    decide
  rw [e1, e2, e3]
  rfl

theorem blendExactAgrees (p0 : Int) {p1 p2 p3 p4 : Int} (h1 : Is16 p1) (h2 : Is16 p2) (h3 : Is16 p3) (h4 : Is16 p4) (p5 p6 p7 p8 p9 : Int) : F_law06_BlendExactAgrees p0 p1 p2 p3 p4 p5 p6 p7 p8 p9 = true := by
  have a := gAlpha16 p5 p6 (gMax16 p9)
  have b := gAlpha16 p7 p8 (gMax16 p9)
  rw [F_law06_BlendExactAgrees_eq]
  simp only [awake06, exacts a.1 a.2 b.1 b.2, exacts h1 h2 h3 h4, exacts (min16 h1 h2) (max16 h1 h2) (min16 h3 h4) (max16 h3 h4), beq_self_eq_true, cond_true, Bool.and_self]
end Go.Proofs.YtiooegkbkahppaaDoor
