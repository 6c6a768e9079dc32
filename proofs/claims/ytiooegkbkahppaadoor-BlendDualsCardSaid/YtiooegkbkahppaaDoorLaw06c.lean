/- The statements of chapter 06, as plain laws, further. -/
import Derived.Test.YtiooegkbkahppaaDoorLaw06
namespace Go.Proofs.YtiooegkbkahppaaDoor
open Go.RowKit

/-! BlendOfTheTransparent -/
theorem term_s0 {m d b : Int} (h0 : 1 ≤ m) (h1 : m ≤ 12) (hd : CA d b) : ∃ den : Int, termZ m 0 0 d b = (0, 0, 0, 0, den) ∧ 1 ≤ den ∧ IsW den := by
  have d0 := hd.s0
  have db := hd.sa
  have b1 := hd.a1
  have bb := mulB (show 0 ≤ b by omega) b1 (show 0 ≤ b by omega) b1
  rcases modes h0 h1 with rfl | rfl | rfl | rfl | rfl | rfl | rfl | rfl | rfl | rfl | rfl | rfl
  case inr.inr.inr.inr.inr.inr.inr.inr.inr.inl =>
    by_cases hb : b = 0
    · exact ⟨1, by simp [termZ, softZ, fracZ, hb], by decide, one_W⟩
    · exact ⟨b, by simp [termZ, softZ, fracZ, hb], by omega, ⟨by omega, by omega⟩⟩
  all_goals exact ⟨1, by simp [termZ, fracZ, hardZ, dodgeZ, burnZ], by decide, one_W⟩
theorem term_d0 {m s a : Int} (h0 : 1 ≤ m) (h1 : m ≤ 12) : ∃ den : Int, termZ m s a 0 0 = (0, 0, 0, 0, den) ∧ 1 ≤ den ∧ IsW den := by
  refine ⟨1, ?_, by decide, one_W⟩
  rcases modes h0 h1 with rfl | rfl | rfl | rfl | rfl | rfl | rfl | rfl | rfl | rfl | rfl | rfl <;> simp [termZ, fracZ, hardZ, dodgeZ, burnZ, softZ]
theorem round0 {den : Int} (h : 1 ≤ den) (hw : IsW den) : F_law06_rounded 0 0 0 0 den = 0 := by
  rw [F_law06_rounded_eq, ← halves ⟨zero_W, zero_W, zero_W, zero_W, hw⟩, sHalf zero_W zero_W zero_W zero_W hw, if_pos ⟨by decide, by decide, by decide, h⟩]
  have e1 : (0 * 0 * 0 : Int) = 0 * 0 := by decide
  have e2 : (2 * 0 * (2 * 0) * 0 : Int) = 4 * (0 * 0) := by decide
  have e3 : U 0 0 = 0 := by decide
  rw [e1, e2, e3, haE_whole (by decide) (by decide) h (by decide)]
  have e4 : ¬ den ≤ 2 * (0 % den) := by rw [Int.zero_emod]; omega
  simp only [near, Int.add_zero, if_neg e4, Int.zero_ediv]
theorem mode12 (p : Int) : 1 ≤ IntKind.i64.wrap (1 + F_gen_Mod p 12) ∧ IntKind.i64.wrap (1 + F_gen_Mod p 12) ≤ 12 := by
  have h := mod_bd p (n := 12) (by decide) (by decide)
  rw [i64_in (x := 1 + F_gen_Mod p 12) (by omega) (by omega)]
  omega
theorem zeroCA : CA 0 0 := ⟨by decide, by decide, by decide⟩
theorem blendOfTheTransparent (p0 p1 p2 p3 p4 p5 : Int) : F_law06_BlendOfTheTransparent p0 p1 p2 p3 p4 p5 = true := by
  have b := gAlphaCA p3 p4 (gMax16 p5)
  have hm := mode12 p0
  rw [F_law06_BlendOfTheTransparent_eq]
  simp only [awake06]
  generalize F_gen_Alpha p3 p4 (F_gen_Max p5) = y at *
  obtain ⟨d, b'⟩ := y
  simp only at b ⊢
  obtain ⟨e1, t1, u1, w1⟩ := term_s0 hm.1 hm.2 b
  obtain ⟨e2, t2, u2, w2⟩ := term_d0 (s := d) (a := b') hm.1 hm.2
  rw [exactCA zeroCA b hm.1 hm.2, exactCA b zeroCA hm.1 hm.2, t1, t2]
  simp only [round0 u1 w1, round0 u2 w2]
  rfl

/-! BlendRejects -/
theorem straight0 (m s d : Int) : F_blend_Straight m s d 0 = (0, false) := by
  rw [F_blend_Straight_eq]
  generalize F_blend_Exact m s 0 d 0 = x
  obtain ⟨_, _, _, _, _, ok⟩ := x
  cases ok <;> rfl
theorem straightBad {m s d a : Int} (h : ¬ (1 ≤ m ∧ m ≤ 12)) (s1 : Is16 s) (d1 : Is16 d) (a1 : Is16 a) : F_blend_Straight m s d a = (0, false) := by
  rw [F_blend_Straight_eq, rej1 h s1 a1 d1 a1]
  rfl
theorem max1 {x : Int} : 1 ≤ F_law06_max16 x 1 := by
  rw [F_law06_max16_eq]
  by_cases k : x > 1 <;> simp [k]
  omega
theorem c16 {x : Int} (h : 0 ≤ x) (h1 : x ≤ 65535) : Is16 x := ⟨h, h1⟩
theorem blendRejects (p0 p1 : Int) {p2 p3 p4 p5 : Int} (h2 : Is16 p2) (_h3 : Is16 p3) (h4 : Is16 p4) (_h5 : Is16 p5) : F_law06_BlendRejects p0 p1 p2 p3 p4 p5 = true := by
  have o1 : Is16 1 := ⟨by decide, by decide⟩
  have o255 : Is16 255 := ⟨by decide, by decide⟩
  have x1 := max1 (x := p2)
  have x2 := max16 h2 o1
  have y1 := max1 (x := p4)
  have y2 := max16 h4 o1
  have hb1 := mod_bd p1 (n := 1000) (by decide) (by decide)
  rw [F_law06_BlendRejects_eq]
  simp only [awake06, straight0]
  rw [u16_in (x := F_law06_max16 p2 1 - 1) (by omega) (by have := x2.2; omega), u16_in (x := F_law06_max16 p4 1 - 1) (by omega) (by have := y2.2; omega)]
  rw [rej2 (a := F_law06_max16 p2 1 - 1) (by omega) x2 ⟨by omega, by have := x2.2; omega⟩ h4 h4, rej3 (b := F_law06_max16 p4 1 - 1) (by omega) h2 h2 y2 ⟨by omega, by have := y2.2; omega⟩]
  have hm := gMod (x := p1) (n := 4) (by decide) (by decide)
  have e0 : p1 % 4 = 0 ∨ p1 % 4 = 1 ∨ p1 % 4 = 2 ∨ p1 % 4 = 3 := by omega
  rw [hm, rej1 (m := 0) (by decide) h2 h2 h4 h4, rej1 (m := 13) (by decide) h2 h2 h4 h4, straightBad (m := 0) (by decide) o1 o1 o255, straightBad (m := 13) (by decide) o1 o1 o255]
  rw [i64_in (x := (-1) - F_gen_Mod p1 1000) (by omega) (by omega), i64_in (x := 13 + F_gen_Mod p1 1000) (by omega) (by omega)]
  rw [rej1 (m := (-1) - F_gen_Mod p1 1000) (by omega) h2 h2 h4 h4, rej1 (m := 13 + F_gen_Mod p1 1000) (by omega) h2 h2 h4 h4, straightBad (m := (-1) - F_gen_Mod p1 1000) (by omega) o1 o1 o255, straightBad (m := 13 + F_gen_Mod p1 1000) (by omega) o1 o1 o255]
  rcases e0 with h | h | h | h <;> rw [h] <;> simp
end Go.Proofs.YtiooegkbkahppaaDoor
