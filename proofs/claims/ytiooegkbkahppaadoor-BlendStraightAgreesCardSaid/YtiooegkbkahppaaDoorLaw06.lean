/- The statements of chapter 06, as plain laws of what the functions compute. -/
import Derived.Test.YtiooegkbkahppaaDoorSm06b
import Derived.Test.YtiooegkbkahppaaDoorMath06b
namespace Go.Proofs.YtiooegkbkahppaaDoor
open Go.RowKit

theorem wrap16 (x : Int) : Is16 (IntKind.u16.wrap x) := by
  obtain ⟨a, b⟩ := wrap_within .u16 x
  exact is16 a b
theorem zero16 : Is16 0 := ⟨by decide, by decide⟩
theorem gMax16 (x : Int) : Is16 (F_gen_Max x) := by
  rw [F_gen_Max_eq]
  simp only
  generalize (F_gen_Mod x 3 == 2) = c
  cases c <;> exact ⟨by decide, by decide⟩
theorem gSample16 (x : Int) {m : Int} (hm : Is16 m) : Is16 (F_gen_Sample x m) := by
  rw [F_gen_Sample_eq]
  simp only
  generalize (F_gen_Mod x 8 == 0) = c0
  generalize (F_gen_Mod x 8 == 1) = c1
  generalize (F_gen_Mod x 8 == 2) = c2
  generalize (F_gen_Mod x 8 == 3) = c3
  generalize (F_gen_Mod x 8 == 4) = c4
  cases c0
  · cases c1
    · cases c2
      · cases c3
        · cases c4
          · simp only [cond_false]; exact wrap16 _
          · simp only [cond_false, cond_true]; exact wrap16 _
        · simp only [cond_false, cond_true]; exact wrap16 _
      · exact hm
    · exact hm
  · exact zero16
theorem gAlpha16 (x y : Int) {m : Int} (hm : Is16 m) : Is16 (F_gen_Alpha x y m).1 ∧ Is16 (F_gen_Alpha x y m).2 := by
  rw [F_gen_Alpha_eq]
  simp only
  exact ⟨gSample16 _ (gSample16 _ hm), gSample16 _ hm⟩
theorem max16 {x y : Int} (hx : Is16 x) (hy : Is16 y) : Is16 (F_law06_max16 x y) := by
  rw [F_law06_max16_eq]
  cases decide (x > y) <;> assumption
theorem min16 {x y : Int} (hx : Is16 x) (hy : Is16 y) : Is16 (if y < x then y else x) := by split <;> assumption

theorem awake06 : F_law06_awake = true := by
  rw [F_law06_awake_eq]
  have e1 : F_blend_Straight 2 128 128 255 = (64, true) := by
    rw [F_blend_Straight_eq, bExact ⟨by decide, by decide⟩ ⟨by decide, by decide⟩ ⟨by decide, by decide⟩ ⟨by decide, by decide⟩]
    have : blendZ 2 128 255 128 255 = (0, 16384, 0, 0, 1, true) := by decide
    simp only [this]
    rw [sHalf ⟨by decide, by decide⟩ ⟨by decide, by decide⟩ ⟨by decide, by decide⟩ ⟨by decide, by decide⟩ ⟨by decide, by decide⟩]
    have i : isq (0 * 0 * 0) = 0 := isq_eq (by decide) (by decide) (by decide) (by decide)
    simp only [haE, flE, i]
    decide
  have e2 : F_blend_Straight 10 255 64 255 = (128, true) := by
    rw [F_blend_Straight_eq, bExact ⟨by decide, by decide⟩ ⟨by decide, by decide⟩ ⟨by decide, by decide⟩ ⟨by decide, by decide⟩]
    have : blendZ 10 255 255 64 255 = (0, 0, 255, 16320, 1, true) := by decide
    simp only [this]
    rw [sHalf ⟨by decide, by decide⟩ ⟨by decide, by decide⟩ ⟨by decide, by decide⟩ ⟨by decide, by decide⟩ ⟨by decide, by decide⟩]
    have i : isq (255 * 255 * 16320) = 32576 := isq_eq (by decide) (by decide) (by decide) (by decide)
    simp only [haE, flE, i]
    decide
  have e3 : F_blend_Exact 7 1 2 1 4 = (0, 4, 0, 0, 1, true) := by
    rw [bExact ⟨by decide, by decide⟩ ⟨by decide, by decide⟩ ⟨by decide, by decide⟩ ⟨by decide, by decide⟩]
    decide
  rw [e1, e2, e3]
  rfl

theorem blendExactAgrees (p0 : Int) {p1 p2 p3 p4 : Int} (h1 : Is16 p1) (h2 : Is16 p2) (h3 : Is16 p3) (h4 : Is16 p4) (p5 p6 p7 p8 p9 : Int) : F_law06_BlendExactAgrees p0 p1 p2 p3 p4 p5 p6 p7 p8 p9 = true := by
  have a := gAlpha16 p5 p6 (gMax16 p9)
  have b := gAlpha16 p7 p8 (gMax16 p9)
  rw [F_law06_BlendExactAgrees_eq]
  simp only [awake06, exacts a.1 a.2 b.1 b.2, exacts h1 h2 h3 h4, exacts (min16 h1 h2) (max16 h1 h2) (min16 h3 h4) (max16 h3 h4), beq_self_eq_true, cond_true, Bool.and_self]

/-! BlendStraightAgrees -/
theorem one_W : IsW 1 := ⟨by decide, by decide⟩
theorem w16 {x : Int} (h : Is16 x) : IsW x := ⟨h.1, by have := h.2; omega⟩
theorem fracW {p d : Int} (hp : IsW p) (hd : IsW d) : XWof (0, p, 0, 0, d) := ⟨zero_W, hp, zero_W, zero_W, hd⟩
theorem bif_P {α : Type} {P : α → Prop} (c : Bool) {x y : α} (hx : P x) (hy : P y) : P (bif c then x else y) := by cases c <;> assumption
theorem ite_W (c : Prop) [Decidable c] {x y : Int} (hx : IsW x) (hy : IsW y) : IsW (if c then x else y) := by split <;> assumption
theorem hard_W (s a d b : Int) (t : Bool) : IsW (F_blend_hard s a d b t) := by
  rw [F_blend_hard_eq]
  exact bif_P (P := IsW) _ (wrapW _) (wrapW _)
theorem dodge_W (s a d b : Int) : XWof (F_blend_dodge s a d b) := by
  rw [F_blend_dodge_eq]
  simp only [F_blend_fraction_eq]
  exact bif_P (P := XWof) _ (fracW zero_W one_W) (bif_P (P := XWof) _ (fracW (wrapW _) one_W) (fracW (wrapW _) (wrapW _)))
theorem burn_W {s : Int} (hs : IsW s) (a d b : Int) : XWof (F_blend_burn s a d b) := by
  rw [F_blend_burn_eq]
  simp only [F_blend_fraction_eq]
  exact bif_P (P := XWof) _ (fracW (wrapW _) one_W) (bif_P (P := XWof) _ (fracW zero_W one_W) (fracW (wrapW _) hs))
theorem soft_W (s a d : Int) {b : Int} (hb : IsW b) : XWof (F_blend_soft s a d b) := by
  rw [F_blend_soft_eq]
  simp only [F_blend_fraction_eq]
  exact bif_P (P := XWof) _ (fracW zero_W one_W) (bif_P (P := XWof) _ (fracW (wrapW _) hb) (bif_P (P := XWof) _ (fracW (wrapW _) (wrapW _)) ⟨zero_W, wrapW _, wrapW _, wrapW _, one_W⟩))
theorem term_W (m : Int) {s : Int} (hs : IsW s) (a d : Int) {b : Int} (hb : IsW b) : XWof (F_blend_term m s a d b) := by
  have d1 := dodge_W s a d b
  have b1 := burn_W hs a d b
  have s1 := soft_W s a d hb
  rw [F_blend_term_eq]
  simp only [F_blend_fraction_eq]
  have f (x : Int) : XWof (0, IntKind.u64.wrap x, 0, 0, 1) := fracW (wrapW _) one_W
  have h1 (t : Bool) : XWof (0, F_blend_hard s a d b t, 0, 0, 1) := fracW (hard_W s a d b t) one_W
  have h2 : XWof (0, if IntKind.u64.wrap (d * a) < IntKind.u64.wrap (s * b) then IntKind.u64.wrap (d * a) else IntKind.u64.wrap (s * b), 0, 0, 1) := fracW (ite_W _ (wrapW _) (wrapW _)) one_W
  have h3 : XWof (0, if IntKind.u64.wrap (d * a) > IntKind.u64.wrap (s * b) then IntKind.u64.wrap (d * a) else IntKind.u64.wrap (s * b), 0, 0, 1) := fracW (ite_W _ (wrapW _) (wrapW _)) one_W
  generalize F_blend_dodge s a d b = D at *
  generalize F_blend_burn s a d b = B at *
  generalize F_blend_soft s a d b = S at *
  generalize F_blend_hard s a d b = H at *
  cases m == 1
  case true => exact f _
  cases m == 2
  case true => exact f _
  cases m == 3
  case true => exact f _
  cases m == 4
  case true => exact h1 _
  cases m == 5
  case true => exact h2
  cases m == 6
  case true => exact h3
  cases m == 7
  case true => exact d1
  cases m == 8
  case true => exact b1
  cases m == 9
  case true => exact h1 _
  cases m == 10
  case true => exact s1
  cases m == 11
  case true => exact f _
  exact f _
abbrev XWof6 (x : Int × Int × Int × Int × Int × Bool) : Prop := XW x.1 x.2.1 x.2.2.1 x.2.2.2.1 x.2.2.2.2.1
theorem exact_W (m : Int) {s : Int} (hs : IsW s) (a d : Int) {b : Int} (hb : IsW b) : XWof6 (F_blend_Exact m s a d b) := by
  have t := term_W m hs a d hb
  have z : XWof6 (0, 0, 0, 0, 0, false) := ⟨zero_W, zero_W, zero_W, zero_W, zero_W⟩
  rw [F_blend_Exact_eq]
  generalize F_blend_term m s a d b = T at *
  simp only
  cases !F_blend_valid m
  case true => exact z
  cases decide (s > a)
  case true => exact z
  cases decide (d > b)
  case true => exact z
  exact t
theorem straights {m s d a : Int} (s1 : Is16 s) (d1 : Is16 d) (a1 : Is16 a) : F_blend_Straight m s d a = F_ref06_StraightBlend m s d a := by
  have hx := exact_W m (w16 s1) a d (w16 a1)
  rw [F_blend_Straight_eq, F_ref06_StraightBlend_eq, ← exacts s1 a1 d1 a1]
  generalize F_blend_Exact m s a d a = x at *
  obtain ⟨ph, pl, q, r, e, ok⟩ := x
  simp only [XWof6] at hx ⊢
  rw [halves ⟨hx.ph, hx.pl, hx.q, hx.r, wrapW _⟩]
  cases ok <;> cases (a == 0) <;> rfl
theorem blendStraightAgrees (p0 : Int) {p1 p2 p3 : Int} (h1 : Is16 p1) (h2 : Is16 p2) (h3 : Is16 p3) (p4 : Int) : F_law06_BlendStraightAgrees p0 p1 p2 p3 p4 = true := by
  rw [F_law06_BlendStraightAgrees_eq]
  simp only [awake06, straights h1 h2 h3, straights (wrap16 _) (wrap16 _) (gMax16 p4), beq_self_eq_true, cond_true]

/-! BlendRejects -/
theorem rej1 {m s a d b : Int} (h : ¬ (1 ≤ m ∧ m ≤ 12)) (s1 : Is16 s) (a1 : Is16 a) (d1 : Is16 d) (b1 : Is16 b) : F_blend_Exact m s a d b = (0, 0, 0, 0, 0, false) := by
  rw [bExact s1 a1 d1 b1, blendZ_neg (fun k => h k.1)]
theorem rej2 {m s a d b : Int} (h : a < s) (s1 : Is16 s) (a1 : Is16 a) (d1 : Is16 d) (b1 : Is16 b) : F_blend_Exact m s a d b = (0, 0, 0, 0, 0, false) := by
  rw [bExact s1 a1 d1 b1, blendZ_neg (fun k => by omega)]
theorem rej3 {m s a d b : Int} (h : b < d) (s1 : Is16 s) (a1 : Is16 a) (d1 : Is16 d) (b1 : Is16 b) : F_blend_Exact m s a d b = (0, 0, 0, 0, 0, false) := by
  rw [bExact s1 a1 d1 b1, blendZ_neg (fun k => by omega)]
end Go.Proofs.YtiooegkbkahppaaDoor
