/- The statements of chapter 06, as plain laws of what the functions compute. -/
import Derived.Test.YtiooegkbkahppaaDoorSm06b
import Derived.Test.YtiooegkbkahppaaDoorMath06b
namespace Go.Proofs.YtiooegkbkahppaaDoor
open Go.RowKit

theorem wrap16 (x : Int) : Is16 (IntKind.u16.wrap x) := by
  obtain ⟨a, b⟩ := wrap_within .u16 x
  exact is16 a b
theorem zero16 : Is16 0 := ⟨by decide, by decide⟩
theorem gMax16 (x : Int) : Is16 (F_gen_Max x) := by
  rw [F_gen_Max_eq]
  simp only
  generalize (F_gen_Mod x 3 == 2) = c
  cases c <;> exact ⟨by decide, by decide⟩
theorem gSample16 (x : Int) {m : Int} (hm : Is16 m) : Is16 (F_gen_Sample x m) := by
  rw [F_gen_Sample_eq]
  simp only
  generalize (F_gen_Mod x 8 == 0) = c0
  generalize (F_gen_Mod x 8 == 1) = c1
  generalize (F_gen_Mod x 8 == 2) = c2
  generalize (F_gen_Mod x 8 == 3) = c3
  generalize (F_gen_Mod x 8 == 4) = c4
  cases c0
  · cases c1
    · cases c2
      · cases c3
        · cases c4
          · simp only [cond_false]; exact wrap16 _
          · simp only [cond_false, cond_true]; exact wrap16 _
        · simp only [cond_false, cond_true]; exact wrap16 _
      · exact hm
    · exact hm
  · exact zero16
theorem gAlpha16 (x y : Int) {m : Int} (hm : Is16 m) : Is16 (F_gen_Alpha x y m).1 ∧ Is16 (F_gen_Alpha x y m).2 := by
  rw [F_gen_Alpha_eq]
  simp only
  exact ⟨gSample16 _ (gSample16 _ hm), gSample16 _ hm⟩
theorem max16 {x y : Int} (hx : Is16 x) (hy : Is16 y) : Is16 (F_law06_max16 x y) := by
  rw [F_law06_max16_eq]
  cases decide (x > y) <;> assumption
theorem min16 {x y : Int} (hx : Is16 x) (hy : Is16 y) : Is16 (if y < x then y else x) := by split <;> assumption

theorem awake06 : F_law06_awake = true := by
  rw [F_law06_awake_eq]
  have e1 : F_blend_Straight 2 128 128 255 = (64, true) := by
    rw [F_blend_Straight_eq, bExact ⟨by decide, by decide⟩ ⟨by decide, by decide⟩ ⟨by decide, by decide⟩ ⟨by decide, by decide⟩]
    have : blendZ 2 128 255 128 255 = (0, 16384, 0, 0, 1, true) := by decide
    simp only [this]
    rw [sHalf ⟨by decide, by decide⟩ ⟨by decide, by decide⟩ ⟨by decide, by decide⟩ ⟨by decide, by decide⟩ ⟨by decide, by decide⟩]
    have i : isq (0 * 0 * 0) = 0 := isq_eq (by decide) (by decide) (by decide) (by decide)
    simp only [haE, flE, i]
    decide
  have e2 : F_blend_Straight 10 255 64 255 = (128, true) := by
    rw [F_blend_Straight_eq, bExact ⟨by decide, by decide⟩ ⟨by decide, by decide⟩ ⟨by decide, by decide⟩ ⟨by decide, by decide⟩]
    have : blendZ 10 255 255 64 255 = (0, 0, 255, 16320, 1, true) := by decide
    simp only [this]
    rw [sHalf ⟨by decide, by decide⟩ ⟨by decide, by decide⟩ ⟨by decide, by decide⟩ ⟨by decide, by decide⟩ ⟨by decide, by decide⟩]
    have i : isq (255 * 255 * 16320) = 32576 := isq_eq (by decide) (by decide) (by decide) (by decide)
    simp only [haE, flE, i]
    decide
  have e3 : F_blend_Exact 7 1 2 1 4 = (0, 4, 0, 0, 1, true) := by
    rw [bExact ⟨by decide, by decide⟩ ⟨by decide, by decide⟩ ⟨by decide, by decide⟩ ⟨by decide, by decide⟩]
    decide
  rw [e1, e2, e3]
  rfl

theorem blendExactAgrees (p0 : Int) {p1 p2 p3 p4 : Int} (h1 : Is16 p1) (h2 : Is16 p2) (h3 : Is16 p3) (h4 : Is16 p4) (p5 p6 p7 p8 p9 : Int) : F_law06_BlendExactAgrees p0 p1 p2 p3 p4 p5 p6 p7 p8 p9 = true := by
  have a := gAlpha16 p5 p6 (gMax16 p9)
  have b := gAlpha16 p7 p8 (gMax16 p9)
  rw [F_law06_BlendExactAgrees_eq]
  simp only [awake06, exacts a.1 a.2 b.1 b.2, exacts h1 h2 h3 h4, exacts (min16 h1 h2) (max16 h1 h2) (min16 h3 h4) (max16 h3 h4), beq_self_eq_true, cond_true, Bool.and_self]

/-! BlendStraightAgrees -/
theorem one_W : IsW 1 := ⟨by decide, by decide⟩
theorem w16 {x : Int} (h : Is16 x) : IsW x := ⟨h.1, by have := h.2; omega⟩
theorem fracW {p d : Int} (hp : IsW p) (hd : IsW d) : XWof (0, p, 0, 0, d) := ⟨zero_W, hp, zero_W, zero_W, hd⟩
theorem bif_P {α : Type} {P : α → Prop} (c : Bool) {x y : α} (hx : P x) (hy : P y) : P (bif c then x else y) := by cases c <;> assumption
theorem ite_W (c : Prop) [Decidable c] {x y : Int} (hx : IsW x) (hy : IsW y) : IsW (if c then x else y) := by split <;> assumption
theorem hard_W (s a d b : Int) (t : Bool) : IsW (F_blend_hard s a d b t) := by
  rw [F_blend_hard_eq]
  exact bif_P (P := IsW) _ (wrapW _) (wrapW _)
theorem dodge_W (s a d b : Int) : XWof (F_blend_dodge s a d b) := by
  rw [F_blend_dodge_eq]
  simp only [F_blend_fraction_eq]
  exact bif_P (P := XWof) _ (fracW zero_W one_W) (bif_P (P := XWof) _ (fracW (wrapW _) one_W) (fracW (wrapW _) (wrapW _)))
theorem burn_W {s : Int} (hs : IsW s) (a d b : Int) : XWof (F_blend_burn s a d b) := by
  rw [F_blend_burn_eq]
  simp only [F_blend_fraction_eq]
  exact bif_P (P := XWof) _ (fracW (wrapW _) one_W) (bif_P (P := XWof) _ (fracW zero_W one_W) (fracW (wrapW _) hs))
theorem soft_W (s a d : Int) {b : Int} (hb : IsW b) : XWof (F_blend_soft s a d b) := by
  rw [F_blend_soft_eq]
  simp only [F_blend_fraction_eq]
  exact bif_P (P := XWof) _ (fracW zero_W one_W) (bif_P (P := XWof) _ (fracW (wrapW _) hb) (bif_P (P := XWof) _ (fracW (wrapW _) (wrapW _)) ⟨zero_W, wrapW _, wrapW _, wrapW _, one_W⟩))
theorem term_W (m : Int) {s : Int} (hs : IsW s) (a d : Int) {b : Int} (hb : IsW b) : XWof (F_blend_term m s a d b) := by
  have d1 := dodge_W s a d b
  have b1 := burn_W hs a d b
  have s1 := soft_W s a d hb
  rw [F_blend_term_eq]
  simp only [F_blend_fraction_eq]
  have f (x : Int) : XWof (0, IntKind.u64.wrap x, 0, 0, 1) := fracW (wrapW _) one_W
  have h1 (t : Bool) : XWof (0, F_blend_hard s a d b t, 0, 0, 1) := fracW (hard_W s a d b t) one_W
  have h2 : XWof (0, if IntKind.u64.wrap (d * a) < IntKind.u64.wrap (s * b) then IntKind.u64.wrap (d * a) else IntKind.u64.wrap (s * b), 0, 0, 1) := fracW (ite_W _ (wrapW _) (wrapW _)) one_W
  have h3 : XWof (0, if IntKind.u64.wrap (d * a) > IntKind.u64.wrap (s * b) then IntKind.u64.wrap (d * a) else IntKind.u64.wrap (s * b), 0, 0, 1) := fracW (ite_W _ (wrapW _) (wrapW _)) one_W
  generalize F_blend_dodge s a d b = D at *
  generalize F_blend_burn s a d b = B at *
  generalize F_blend_soft s a d b = S at *
  generalize F_blend_hard s a d b = H at *
  cases m == 1
  case true => exact f _
  cases m == 2
  case true => exact f _
  cases m == 3
  case true => exact f _
  cases m == 4
  case true => exact h1 _
  cases m == 5
  case true => exact h2
  cases m == 6
  case true => exact h3
  cases m == 7
  case true => exact d1
  cases m == 8
  case true => exact b1
  cases m == 9
  case true => exact h1 _
  cases m == 10
  case true => exact s1
  cases m == 11
  case true => exact f _
  exact f _
abbrev XWof6 (x : Int × Int × Int × Int × Int × Bool) : Prop := XW x.1 x.2.1 x.2.2.1 x.2.2.2.1 x.2.2.2.2.1
theorem exact_W (m : Int) {s : Int} (hs : IsW s) (a d : Int) {b : Int} (hb : IsW b) : XWof6 (F_blend_Exact m s a d b) := by
  have t := term_W m hs a d hb
  have z : XWof6 (0, 0, 0, 0, 0, false) := ⟨zero_W, zero_W, zero_W, zero_W, zero_W⟩
  rw [F_blend_Exact_eq]
  generalize F_blend_term m s a d b = T at *
  simp only
  cases !F_blend_valid m
  case true => exact z
  cases decide (s > a)
  case true => exact z
  cases decide (d > b)
  case true => exact z
  exact t
theorem straights {m s d a : Int} (s1 : Is16 s) (d1 : Is16 d) (a1 : Is16 a) : F_blend_Straight m s d a = F_ref06_StraightBlend m s d a := by
  have hx := exact_W m (w16 s1) a d (w16 a1)
  rw [F_blend_Straight_eq, F_ref06_StraightBlend_eq, ← exacts s1 a1 d1 a1]
  generalize F_blend_Exact m s a d a = x at *
  obtain ⟨ph, pl, q, r, e, ok⟩ := x
  simp only [XWof6] at hx ⊢
  rw [halves ⟨hx.ph, hx.pl, hx.q, hx.r, wrapW _⟩]
  cases ok <;> cases (a == 0) <;> rfl
theorem blendStraightAgrees (p0 : Int) {p1 p2 p3 : Int} (h1 : Is16 p1) (h2 : Is16 p2) (h3 : Is16 p3) (p4 : Int) : F_law06_BlendStraightAgrees p0 p1 p2 p3 p4 = true := by
  rw [F_law06_BlendStraightAgrees_eq]
  simp only [awake06, straights h1 h2 h3, straights (wrap16 _) (wrap16 _) (gMax16 p4), beq_self_eq_true, cond_true]

/-! BlendRejects -/
theorem rej1 {m s a d b : Int} (h : ¬ (1 ≤ m ∧ m ≤ 12)) (s1 : Is16 s) (a1 : Is16 a) (d1 : Is16 d) (b1 : Is16 b) : F_blend_Exact m s a d b = (0, 0, 0, 0, 0, false) := by
  rw [bExact s1 a1 d1 b1, blendZ_neg (fun k => h k.1)]
theorem rej2 {m s a d b : Int} (h : a < s) (s1 : Is16 s) (a1 : Is16 a) (d1 : Is16 d) (b1 : Is16 b) : F_blend_Exact m s a d b = (0, 0, 0, 0, 0, false) := by
  rw [bExact s1 a1 d1 b1, blendZ_neg (fun k => by omega)]
theorem rej3 {m s a d b : Int} (h : b < d) (s1 : Is16 s) (a1 : Is16 a) (d1 : Is16 d) (b1 : Is16 b) : F_blend_Exact m s a d b = (0, 0, 0, 0, 0, false) := by
  rw [bExact s1 a1 d1 b1, blendZ_neg (fun k => by omega)]

/-! A generated colour is at most its alpha. -/
theorem mod_bd (x : Int) {n : Int} (h1 : 1 ≤ n) (h2 : n ≤ 65536) : 0 ≤ F_gen_Mod x n ∧ F_gen_Mod x n < n := by
  rw [gMod h1 (by omega)]
  exact ⟨Int.emod_nonneg x (by omega), Int.emod_lt_of_pos x (by omega)⟩
theorem u16_in {x : Int} (h0 : 0 ≤ x) (h1 : x ≤ 65535) : IntKind.u16.wrap x = x := wrap_in _ _ (by simp [IntKind.min, IntKind.signed]; exact h0) (by simp [IntKind.max, IntKind.signed, IntKind.bits]; omega)
theorem i64_in {x : Int} (h0 : -9223372036854775808 ≤ x) (h1 : x ≤ 9223372036854775807) : IntKind.i64.wrap x = x := wrap_in _ _ (by simp [IntKind.min, IntKind.signed, IntKind.bits]; omega) (by simp [IntKind.max, IntKind.signed, IntKind.bits]; omega)
theorem gSample_le (x : Int) {m : Int} (hm : Is16 m) : 0 ≤ F_gen_Sample x m ∧ F_gen_Sample x m ≤ m := by
  have m0 := hm.1
  have m1 := hm.2
  rw [F_gen_Sample_eq]
  simp only
  have b2 := mod_bd (IntKind.i64.wrap (Int.tdiv x 8)) (n := 2) (by decide) (by decide)
  have b4 := mod_bd (IntKind.i64.wrap (Int.tdiv x 8)) (n := 4) (by decide) (by decide)
  have bm := mod_bd (IntKind.i64.wrap (Int.tdiv x 8)) (n := m + 1) (by omega) (by omega)
  rw [i64_in (x := m + 1) (by omega) (by omega)]
  generalize F_gen_Mod (IntKind.i64.wrap (Int.tdiv x 8)) 2 = y2 at *
  generalize F_gen_Mod (IntKind.i64.wrap (Int.tdiv x 8)) 4 = y4 at *
  generalize F_gen_Mod (IntKind.i64.wrap (Int.tdiv x 8)) (m + 1) = ym at *
  have e3 : IntKind.u16.wrap (IntKind.i64.wrap (Int.tdiv (IntKind.i64.wrap (m + y2)) 2)) = (m + y2) / 2 := by
    rw [i64_in (x := m + y2) (by omega) (by omega), Int.tdiv_eq_ediv_of_nonneg (by omega), i64_in (by omega) (by omega), u16_in (by omega) (by omega)]
  have e4 : IntKind.u16.wrap (if y4 < m then y4 else m) = if y4 < m then y4 else m := u16_in (by split <;> omega) (by split <;> omega)
  rw [e3, e4, u16_in (x := ym) (by omega) (by omega)]
  generalize (F_gen_Mod x 8 == 0) = c0
  generalize (F_gen_Mod x 8 == 1) = c1
  generalize (F_gen_Mod x 8 == 2) = c2
  generalize (F_gen_Mod x 8 == 3) = c3
  generalize (F_gen_Mod x 8 == 4) = c4
  cases c0
  case true => simp only [cond_true]; omega
  cases c1
  case true => simp only [cond_true, cond_false]; omega
  cases c2
  case true => simp only [cond_true, cond_false]; omega
  cases c3
  case true => simp only [cond_true, cond_false]; omega
  cases c4
  case true => simp only [cond_true, cond_false]; split <;> omega
  simp only [cond_false]; omega
theorem gAlphaCA (x y : Int) {m : Int} (hm : Is16 m) : CA (F_gen_Alpha x y m).1 (F_gen_Alpha x y m).2 := by
  have h := gSample_le y hm
  have k := gSample_le x (m := F_gen_Sample y m) ⟨h.1, by have := hm.2; omega⟩
  rw [F_gen_Alpha_eq]
  simp only
  exact ⟨k.1, k.2, by have := hm.2; omega⟩
theorem CA.both {s a : Int} (h : CA s a) : Is16 s ∧ Is16 a := ⟨⟨h.s0, by have := h.sa; have := h.a1; omega⟩, ⟨by have := h.s0; have := h.sa; omega, h.a1⟩⟩
theorem exactCA {m s a d b : Int} (hs : CA s a) (hd : CA d b) (h0 : 1 ≤ m) (h1 : m ≤ 12) : F_blend_Exact m s a d b = ((termZ m s a d b).1, (termZ m s a d b).2.1, (termZ m s a d b).2.2.1, (termZ m s a d b).2.2.2.1, (termZ m s a d b).2.2.2.2, true) := by
  rw [bExact hs.both.1 hs.both.2 hd.both.1 hd.both.2, blendZ_pos ⟨⟨h0, h1⟩, hs.sa, hd.sa⟩]

/-! BlendSwaps -/
theorem swap49 (s a d b : Int) : termZ 4 s a d b = termZ 9 d b s a := by
  have x1 : 2 * d * s = 2 * s * d := by rw [Int.mul_assoc, Int.mul_comm d s, ← Int.mul_assoc]
  have x2 : hardZ d b s a = hardZ s a d b := by
    unfold hardZ
    rw [Int.mul_comm b a, Int.mul_assoc 2 (a - s), Int.mul_comm (a - s), ← Int.mul_assoc]
  simp [termZ, x1, x2]
theorem swapSym {k : Int} (hk : k = 2 ∨ k = 3 ∨ k = 5 ∨ k = 6 ∨ k = 11 ∨ k = 12) (s a d b : Int) : termZ k s a d b = termZ k d b s a := by
  have e1 : d * s = s * d := Int.mul_comm _ _
  have e2 : 2 * d * s = 2 * s * d := by rw [Int.mul_assoc, Int.mul_comm d s, ← Int.mul_assoc]
  generalize hx : s * b = x
  generalize hy : d * a = y
  have m1 : (if y < x then y else x) = if x < y then x else y := by split <;> split <;> omega
  have m2 : (if y > x then y else x) = if x > y then x else y := by split <;> split <;> omega
  rcases hk with rfl | rfl | rfl | rfl | rfl | rfl <;> simp [termZ, fracZ, hx, hy, e1, e2]
  · omega
  · exact m1
  · exact m2
  · have m2' : (if x < y then y else x) = if y < x then x else y := m2
    rw [m1, m2']
  · omega
theorem blendSwaps (p0 p1 p2 p3 p4 p5 : Int) : F_law06_BlendSwaps p0 p1 p2 p3 p4 p5 = true := by
  have a := gAlphaCA p1 p2 (gMax16 p5)
  have b := gAlphaCA p3 p4 (gMax16 p5)
  rw [F_law06_BlendSwaps_eq]
  simp only [awake06]
  generalize F_gen_Alpha p1 p2 (F_gen_Max p5) = x at *
  generalize F_gen_Alpha p3 p4 (F_gen_Max p5) = y at *
  obtain ⟨s, a'⟩ := x
  obtain ⟨d, b'⟩ := y
  simp only at a b ⊢
  have hm := gMod (x := p0) (n := 6) (by decide) (by decide)
  have e0 : p0 % 6 = 0 ∨ p0 % 6 = 1 ∨ p0 % 6 = 2 ∨ p0 % 6 = 3 ∨ p0 % 6 = 4 ∨ p0 % 6 = 5 := by omega
  rw [hm]
  rw [exactCA a b (m := 4) (by decide) (by decide), exactCA b a (m := 9) (by decide) (by decide), swap49,
    exactCA a b (m := 2) (by decide) (by decide), exactCA b a (m := 2) (by decide) (by decide), swapSym (k := 2) (by decide) s a' d b',
    exactCA a b (m := 3) (by decide) (by decide), exactCA b a (m := 3) (by decide) (by decide), swapSym (k := 3) (by decide) s a' d b',
    exactCA a b (m := 5) (by decide) (by decide), exactCA b a (m := 5) (by decide) (by decide), swapSym (k := 5) (by decide) s a' d b',
    exactCA a b (m := 6) (by decide) (by decide), exactCA b a (m := 6) (by decide) (by decide), swapSym (k := 6) (by decide) s a' d b',
    exactCA a b (m := 11) (by decide) (by decide), exactCA b a (m := 11) (by decide) (by decide), swapSym (k := 11) (by decide) s a' d b',
    exactCA a b (m := 12) (by decide) (by decide), exactCA b a (m := 12) (by decide) (by decide), swapSym (k := 12) (by decide) s a' d b']
  rcases e0 with h | h | h | h | h | h <;> rw [h] <;> simp
end Go.Proofs.YtiooegkbkahppaaDoor
