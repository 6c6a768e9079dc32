/- The statements of chapter 06, as plain laws of what the functions compute; the blend term as an exact number, and its nearest integer. -/
import Derived.Test.YtdioaiepkhepaaaGreatDoorSm06b
import Derived.Test.YtdioaiepkhepaaaGreatDoorMath6
namespace Go.Proofs.YtdioaiepkhepaaaGreatDoor
open Go.RowKit
theorem zero16 : Is16 0 := ⟨by decide, by decide⟩
theorem one_W : IsW 1 := ⟨by decide, by decide⟩
theorem w16 {x : Int} (h : Is16 x) : IsW x := ⟨h.1, by have := h.2; omega⟩
theorem fracW {p d : Int} (hp : IsW p) (hd : IsW d) : XWof (0, p, 0, 0, d) := ⟨zero_W, hp, zero_W, zero_W, hd⟩
theorem bif_P {α : Type} {P : α → Prop} (c : Bool) {x y : α} (hx : P x) (hy : P y) : P (bif c then x else y) := by cases c <;> assumption
theorem ite_W (c : Prop) [Decidable c] {x y : Int} (hx : IsW x) (hy : IsW y) : IsW (if c then x else y) := by split <;> assumption
theorem hard_W (s a d b : Int) (t : Bool) : IsW (F_blend_hard s a d b t) := by
 rw [F_blend_hard_eq]
 exact bif_P (P := IsW) _ (wrapW _) (wrapW _)
theorem dodge_W (s a d b : Int) : XWof (F_blend_dodge s a d b) := by
 rw [F_blend_dodge_eq]
 simp only [F_blend_fraction_eq]
 exact bif_P (P := XWof) _ (fracW zero_W one_W) (bif_P (P := XWof) _ (fracW (wrapW _) one_W) (fracW (wrapW _) (wrapW _)))
theorem burn_W {s : Int} (hs : IsW s) (a d b : Int) : XWof (F_blend_burn s a d b) := by
 rw [F_blend_burn_eq]
 simp only [F_blend_fraction_eq]
 exact bif_P (P := XWof) _ (fracW (wrapW _) one_W) (bif_P (P := XWof) _ (fracW zero_W one_W) (fracW (wrapW _) hs))
theorem soft_W (s a d : Int) {b : Int} (hb : IsW b) : XWof (F_blend_soft s a d b) := by
 rw [F_blend_soft_eq]
 simp only [F_blend_fraction_eq]
 exact bif_P (P := XWof) _ (fracW zero_W one_W) (bif_P (P := XWof) _ (fracW (wrapW _) hb) (bif_P (P := XWof) _ (fracW (wrapW _) (wrapW _)) ⟨zero_W, wrapW _, wrapW _, wrapW _, one_W⟩))
theorem term_W (m : Int) {s : Int} (hs : IsW s) (a d : Int) {b : Int} (hb : IsW b) : XWof (F_blend_term m s a d b) := by
 have d1 := dodge_W s a d b
 have b1 := burn_W hs a d b
 have s1 := soft_W s a d hb
 rw [F_blend_term_eq]
 simp only [F_blend_fraction_eq]
 have f (x : Int) : XWof (0, IntKind.u64.wrap x, 0, 0, 1) := fracW (wrapW _) one_W
 have h1 (t : Bool) : XWof (0, F_blend_hard s a d b t, 0, 0, 1) := fracW (hard_W s a d b t) one_W
 have h2 : XWof (0, if IntKind.u64.wrap (d * a) < IntKind.u64.wrap (s * b) then IntKind.u64.wrap (d * a) else IntKind.u64.wrap (s * b), 0, 0, 1) := fracW (ite_W _ (wrapW _) (wrapW _)) one_W
 have h3 : XWof (0, if IntKind.u64.wrap (d * a) > IntKind.u64.wrap (s * b) then IntKind.u64.wrap (d * a) else IntKind.u64.wrap (s * b), 0, 0, 1) := fracW (ite_W _ (wrapW _) (wrapW _)) one_W
 generalize F_blend_dodge s a d b = D at *
 generalize F_blend_burn s a d b = B at *
 generalize F_blend_soft s a d b = S at *
 generalize F_blend_hard s a d b = H at *
 cases m == 1
 case true => exact f _
 cases m == 2
 case true => exact f _
 cases m == 3
 case true => exact f _
 cases m == 4
 case true => exact h1 _
 cases m == 5
 case true => exact h2
 cases m == 6
 case true => exact h3
 cases m == 7
 case true => exact d1
 cases m == 8
 case true => exact b1
 cases m == 9
 case true => exact h1 _
 cases m == 10
 case true => exact s1
 cases m == 11
 case true => exact f _
 exact f _
abbrev XWof6 (x : Int × Int × Int × Int × Int × Bool) : Prop := XW x.1 x.2.1 x.2.2.1 x.2.2.2.1 x.2.2.2.2.1
theorem exact_W (m : Int) {s : Int} (hs : IsW s) (a d : Int) {b : Int} (hb : IsW b) : XWof6 (F_blend_Exact m s a d b) := by
 have t := term_W m hs a d hb
 have z : XWof6 (0, 0, 0, 0, 0, false) := ⟨zero_W, zero_W, zero_W, zero_W, zero_W⟩
 rw [F_blend_Exact_eq]
 generalize F_blend_term m s a d b = T at *
 simp only
 cases !F_blend_valid m
 case true => exact z
 cases decide (s > a)
 case true => exact z
 cases decide (d > b)
 case true => exact z
 exact t
theorem mod_bd (x : Int) {n : Int} (h1 : 1 ≤ n) (h2 : n ≤ 65536) : 0 ≤ F_gen_Mod x n ∧ F_gen_Mod x n < n := by
 rw [gMod h1 (by omega)]
 exact ⟨Int.emod_nonneg x (by omega), Int.emod_lt_of_pos x (by omega)⟩
theorem u16_in {x : Int} (h0 : 0 ≤ x) (h1 : x ≤ 65535) : IntKind.u16.wrap x = x := wrap_in _ _ (by simp [IntKind.min, IntKind.signed]; exact h0) (by simp [IntKind.max, IntKind.signed, IntKind.bits]; omega)
theorem i64_in {x : Int} (h0 : -9223372036854775808 ≤ x) (h1 : x ≤ 9223372036854775807) : IntKind.i64.wrap x = x := wrap_in _ _ (by simp [IntKind.min, IntKind.signed, IntKind.bits]; omega) (by simp [IntKind.max, IntKind.signed, IntKind.bits]; omega)
theorem gSample_le (x : Int) {m : Int} (hm : Is16 m) : 0 ≤ F_gen_Sample x m ∧ F_gen_Sample x m ≤ m := by
 have m0 := hm.1
 have m1 := hm.2
 rw [F_gen_Sample_eq]
 simp only
 have b2 := mod_bd (IntKind.i64.wrap (Int.tdiv x 8)) (n := 2) (by decide) (by decide)
 have b4 := mod_bd (IntKind.i64.wrap (Int.tdiv x 8)) (n := 4) (by decide) (by decide)
 have bm := mod_bd (IntKind.i64.wrap (Int.tdiv x 8)) (n := m + 1) (by omega) (by omega)
 rw [i64_in (x := m + 1) (by omega) (by omega)]
 generalize F_gen_Mod (IntKind.i64.wrap (Int.tdiv x 8)) 2 = y2 at *
 generalize F_gen_Mod (IntKind.i64.wrap (Int.tdiv x 8)) 4 = y4 at *
 generalize F_gen_Mod (IntKind.i64.wrap (Int.tdiv x 8)) (m + 1) = ym at *
 have e3 : IntKind.u16.wrap (IntKind.i64.wrap (Int.tdiv (IntKind.i64.wrap (m + y2)) 2)) = (m + y2) / 2 := by
  rw [i64_in (x := m + y2) (by omega) (by omega), Int.tdiv_eq_ediv_of_nonneg (by omega), i64_in (by omega) (by omega), u16_in (by omega) (by omega)]
 have e4 : IntKind.u16.wrap (if y4 < m then y4 else m) = if y4 < m then y4 else m := u16_in (by split <;> omega) (by split <;> omega)
 rw [e3, e4, u16_in (x := ym) (by omega) (by omega)]
 generalize (F_gen_Mod x 8 == 0) = c0
 generalize (F_gen_Mod x 8 == 1) = c1
 generalize (F_gen_Mod x 8 == 2) = c2
 generalize (F_gen_Mod x 8 == 3) = c3
 generalize (F_gen_Mod x 8 == 4) = c4
 cases c0
 case true => simp only [cond_true]; omega
 cases c1
 case true => simp only [cond_true, cond_false]; omega
 cases c2
 case true => simp only [cond_true, cond_false]; omega
 cases c3
 case true => simp only [cond_true, cond_false]; omega
 cases c4
 case true => simp only [cond_true, cond_false]; split <;> omega
 simp only [cond_false]; omega
theorem CA.both {s a : Int} (h : CA s a) : Is16 s ∧ Is16 a := ⟨⟨h.s0, by have := h.sa; have := h.a1; omega⟩, ⟨by have := h.s0; have := h.sa; omega, h.a1⟩⟩
theorem exactCA {m s a d b : Int} (hs : CA s a) (hd : CA d b) (h0 : 1 ≤ m) (h1 : m ≤ 12) : F_blend_Exact m s a d b = ((termZ m s a d b).1, (termZ m s a d b).2.1, (termZ m s a d b).2.2.1, (termZ m s a d b).2.2.2.1, (termZ m s a d b).2.2.2.2, true) := by
 rw [bExact hs.both.1 hs.both.2 hd.both.1 hd.both.2, blendZ_pos ⟨⟨h0, h1⟩, hs.sa, hd.sa⟩]
end Go.Proofs.YtdioaiepkhepaaaGreatDoor
namespace Go.Proofs.YtdioaiepkhepaaaGreatDoor
open Go.RowKit
theorem mode12 (p : Int) : 1 ≤ IntKind.i64.wrap (1 + F_gen_Mod p 12) ∧ IntKind.i64.wrap (1 + F_gen_Mod p 12) ≤ 12 := by
 have h := mod_bd p (n := 12) (by decide) (by decide)
 rw [i64_in (x := 1 + F_gen_Mod p 12) (by omega) (by omega)]
 omega
theorem c16 {x : Int} (h : 0 ≤ x) (h1 : x ≤ 65535) : Is16 x := ⟨h, h1⟩
end Go.Proofs.YtdioaiepkhepaaaGreatDoor
namespace Go.Proofs.YtdioaiepkhepaaaGreatDoor
open Go.RowKit
end Go.Proofs.YtdioaiepkhepaaaGreatDoor
namespace Go.Proofs.YtdioaiepkhepaaaGreatDoor
open Go.RowKit
theorem bright_bd {s a d b : Int} (hs : CA s a) (hd : CA d b) (h : a ≤ 2 * s) : 0 ≤ (2 * s - a) * b ∧ (2 * s - a) * b ≤ a * b - 2 * d * (a - s) := by
 obtain ⟨s0, sa, a1⟩ := hs
 obtain ⟨d0, db, b1⟩ := hd
 have p := Int.mul_nonneg (show 0 ≤ 2 * s - a by omega) (show 0 ≤ b by omega)
 have q : 2 * d * (a - s) ≤ 2 * b * (a - s) := Int.mul_le_mul_of_nonneg_right (by omega) (by omega)
 have e1 : (2 * s - a) * b = 2 * (s * b) - a * b := by rw [Int.sub_mul, Int.mul_assoc]
 have e2 : 2 * b * (a - s) = 2 * (a * b) - 2 * (s * b) := by rw [Int.mul_assoc, Int.mul_sub, Int.mul_sub, Int.mul_comm b a, Int.mul_comm b s]
 exact ⟨p, by omega⟩
structure InR (x : Int × Int × Int × Int × Int) (X : Int) : Prop where
 ph : x.1 = 0
 pl : 0 ≤ x.2.1
 q0 : 0 ≤ x.2.2.1
 q1 : x.2.2.1 ≤ 65535
 r0 : 0 ≤ x.2.2.2.1
 r1 : x.2.2.2.1 ≤ 4294836225
 den : 1 ≤ x.2.2.2.2
 le : x.2.1 ≤ X * x.2.2.2.2
 sq : x.2.2.1 * x.2.2.1 * x.2.2.2.1 ≤ (X * x.2.2.2.2 - x.2.1) * (X * x.2.2.2.2 - x.2.1)
theorem InR.frac {p den X : Int} (h0 : 0 ≤ p) (h1 : 1 ≤ den) (h2 : p ≤ X * den) : InR (fracZ p den) X :=
 ⟨rfl, h0, Int.le_refl 0, show (0 : Int) ≤ 65535 by decide, Int.le_refl 0, show (0 : Int) ≤ 4294836225 by decide, h1, h2, by
  have := Int.mul_nonneg (show 0 ≤ X * den - p by omega) (show 0 ≤ X * den - p by omega)
  simp only [fracZ]
  omega⟩
theorem term_InR {m s a d b : Int} (hs : CA s a) (hd : CA d b) (h0 : 1 ≤ m) (h1 : m ≤ 12) : InR (termZ m s a d b) (a * b) := by
 have p := CA.prods hs hd
 have q := screen_in hs hd
 have hb := hard_bd hs hd
 have bu := burn_bd hs hd
 have z1 := soft1_bd hs hd
 have z2 := soft2_in hd
 have z3 := soft2_bd hs hd
 have br := bright_bd hs hd
 obtain ⟨s0, sa, a1⟩ := hs
 obtain ⟨d0, db, b1⟩ := hd
 have scr := Int.mul_nonneg (show 0 ≤ a - s by omega) (show 0 ≤ b - d by omega)
 have e1 : (a - s) * (b - d) = a * b - d * a - s * b + s * d := by rw [Int.sub_mul, Int.mul_sub, Int.mul_sub, Int.mul_comm a d]; omega
 have one (x : Int) (h : 0 ≤ x) (k : x ≤ a * b) : InR (fracZ x 1) (a * b) := .frac h (by decide) (by omega)
 have e2 : 2 * s * d = 2 * (s * d) := Int.mul_assoc _ _ _
 have dark1 : 2 * d ≤ b → 2 * (s * d) ≤ a * b := fun h => by
  have := (mulB s0 sa (show 0 ≤ 2 * d by omega) h).2
  have e : s * (2 * d) = 2 * (s * d) := Int.mul_left_comm _ _ _
  omega
 have dark2 : 2 * s ≤ a → 2 * (s * d) ≤ a * b := fun h => by
  have := (mulB (show 0 ≤ 2 * s by omega) h d0 db).2
  omega
 rcases modes h0 h1 with rfl | rfl | rfl | rfl | rfl | rfl | rfl | rfl | rfl | rfl | rfl | rfl
 ·exact one _ p.1 (by omega)
 ·exact one _ (by omega) (by omega)
 ·exact one _ (by omega) (by omega)
 ·show InR (fracZ (if 2 * d ≤ b then 2 * s * d else hardZ s a d b) 1) (a * b)
  split
  ·rename_i h
   have := dark1 h
   exact one _ (by omega) (by omega)
  ·have := hb (Or.inr (by omega))
   exact one _ (by unfold hardZ; omega) (by unfold hardZ; omega)
 ·show InR (fracZ (if d * a < s * b then d * a else s * b) 1) (a * b)
  split <;> exact one _ (by omega) (by omega)
 ·show InR (fracZ (if d * a > s * b then d * a else s * b) 1) (a * b)
  split <;> exact one _ (by omega) (by omega)
 ·show InR (dodgeZ s a d b) (a * b)
  unfold dodgeZ
  split
  ·exact one _ (by decide) (by omega)
  ·split
   ·exact one _ (by omega) (Int.le_refl _)
   ·rename_i k1 k2
    have k3 : 0 < a - s := by
     rcases Int.lt_or_le 0 (a - s) with h | h
     ·exact h
     ·have : a - s = 0 := by omega
      rw [this, Int.mul_zero] at k2
      omega
    have k4 := mulB (show 0 ≤ a by omega) (Int.le_refl a) (show 0 ≤ d * a by omega) (show d * a ≤ b * (a - s) by omega)
    have e3 : a * a * d = a * (d * a) := by rw [Int.mul_assoc, Int.mul_comm a d]
    have e4 : a * b * (a - s) = a * (b * (a - s)) := Int.mul_assoc _ _ _
    exact .frac (by omega) (by omega) (by omega)
 ·show InR (burnZ s a d b) (a * b)
  unfold burnZ
  split
  ·exact one _ (by omega) (Int.le_refl _)
  ·split
   ·exact one _ (by decide) (by omega)
   ·rename_i k1 k2
    have k3 := bu (by omega)
    have k4 : 1 ≤ s := by
     rcases Int.lt_or_le 0 s with h | h
     ·exact h
     ·have : s = 0 := by omega
      subst this
      have := k3.2.2.1
      omega
    exact .frac (by omega) k4 (by omega)
 ·show InR (fracZ (if 2 * s ≤ a then 2 * s * d else hardZ s a d b) 1) (a * b)
  split
  ·rename_i h
   have := dark2 h
   exact one _ (by omega) (by omega)
  ·have := hb (Or.inl (by omega))
   exact one _ (by unfold hardZ; omega) (by unfold hardZ; omega)
 ·show InR (softZ s a d b) (a * b)
  unfold softZ
  split
  ·exact one _ (by decide) (by omega)
  ·rename_i hb0
   split
   ·rename_i h2
    have k := z1 h2
    have k2 := mulB (show 0 ≤ d * a by omega) (show d * a ≤ a * b by omega) (show 0 ≤ b by omega) (Int.le_refl b)
    exact .frac (by omega) (by omega) (by omega)
   ·split
    ·rename_i h2 h4
     have y := z2 h4
     obtain ⟨r1, r2, r3, r4, r5, r6, r7⟩ := z3 (by omega) h4
     have k1 := mulB r4 (show (2 * s - a) * d ≤ d * a by
      have := mulB (show 0 ≤ 2 * s - a by omega) (show 2 * s - a ≤ a by omega) d0 (Int.le_refl d)
      rw [Int.mul_comm d a]; exact this.2) (show 0 ≤ 16 * d * d + 3 * b * b - 12 * d * b by omega) (show 16 * d * d + 3 * b * b - 12 * d * b ≤ 3 * b * b by omega)
     have e5 : d * a * (3 * b * b) = 3 * (d * a * (b * b)) := by rw [Int.mul_assoc 3 b b, Int.mul_left_comm (d * a) 3]
     have k2 := mulB (x := 4 * (d * a)) (A := a * b) (y := b * b) (B := b * b) (by omega) (by
      have : 4 * d * a ≤ b * a := Int.mul_le_mul_of_nonneg_right h4 (by omega)
      have e : 4 * d * a = 4 * (d * a) := Int.mul_assoc _ _ _
      rw [Int.mul_comm a b]
      omega) r2 (Int.le_refl _)
     have e6 : 4 * (d * a) * (b * b) = 4 * (d * a * (b * b)) := Int.mul_assoc _ _ _
     have k3 : 1 * 1 ≤ b * b := Int.mul_le_mul (by omega) (by omega) (by decide) (by omega)
     exact .frac (by omega) (by omega) (by omega)
    ·rename_i h2 h4
     have k := br (by omega)
     have k1 := mulB (show 0 ≤ 2 * d by omega) (Int.le_refl (2 * d)) (show 0 ≤ a - s by omega) (Int.le_refl (a - s))
     have k2 := mulB d0 (show d ≤ 65535 by omega) (show 0 ≤ b by omega) b1
     have k3 := mulB k.1 k.2 k.1 k.2
     have k4 := mulB d0 db (show 0 ≤ b by omega) (Int.le_refl b)
     have k5 := mulB (Int.mul_nonneg (show 0 ≤ 2 * s - a by omega) (show 0 ≤ 2 * s - a by omega)) (Int.le_refl _) k4.1 k4.2
     have e7 : (2 * s - a) * (2 * s - a) * (b * b) = (2 * s - a) * b * ((2 * s - a) * b) := by rw [Int.mul_assoc, Int.mul_assoc, Int.mul_left_comm (2 * s - a) b b]
     rw [e7] at k5
     exact ⟨rfl, k1.1, show 0 ≤ 2 * s - a by omega, show 2 * s - a ≤ 65535 by omega, k2.1, k2.2, Int.le_refl 1, by show 2 * d * (a - s) ≤ a * b * 1; omega, by
      show (2 * s - a) * (2 * s - a) * (d * b) ≤ (a * b * 1 - 2 * d * (a - s)) * (a * b * 1 - 2 * d * (a - s))
      rw [Int.mul_one]
      exact Int.le_trans k5.2 k3.2⟩
 ·show InR (fracZ ((if d * a > s * b then d * a else s * b) - (if d * a < s * b then d * a else s * b)) 1) (a * b)
  exact one _ q.2.2.2.2.2.1 (by split <;> split <;> omega)
 ·show InR (fracZ (s * b + d * a - 2 * s * d) 1) (a * b)
  exact one _ (by omega) (by omega)
end Go.Proofs.YtdioaiepkhepaaaGreatDoor
namespace Go.Proofs.YtdioaiepkhepaaaGreatDoor
open Go.RowKit
def hv (P T d : Int) : Int := (2 * P + T + d) / (2 * d)
theorem ediv_uq {a b q : Int} (h1 : b * q ≤ a) (h2 : a < b * q + b) : a / b = q :=
 ((Int.ediv_emod_unique (r := a - b * q) (show 0 < b by omega)).2 ⟨by omega, by omega, by omega⟩).1
theorem isq4 {S : Int} (hS : 0 ≤ S) : 2 * isq S ≤ isq (4 * S) ∧ isq (4 * S) ≤ 2 * isq S + 1 := by
 obtain ⟨a0, a1, a2⟩ := isq_spec hS
 obtain ⟨b0, b1, b2⟩ := isq_spec (show 0 ≤ 4 * S by omega)
 constructor
 ·rw [← sq_isq (by omega) (by omega)]
  have : 2 * isq S * (2 * isq S) = 4 * (isq S * isq S) := by grind
  omega
 ·rcases Int.lt_or_le (2 * isq S + 1) (isq (4 * S)) with h | h
  ·have h2 : (2 * isq S + 2) * (2 * isq S + 2) ≤ isq (4 * S) * isq (4 * S) := Int.mul_le_mul (by omega) (by omega) (by omega) b0
   have : (2 * isq S + 2) * (2 * isq S + 2) = 4 * ((isq S + 1) * (isq S + 1)) := by grind
   omega
  ·exact h
theorem isq4_le {S Y : Int} (hS : 0 ≤ S) (hY : 0 ≤ Y) (h : S ≤ Y * Y) : isq (4 * S) ≤ 2 * Y := by
 obtain ⟨b0, b1, b2⟩ := isq_spec (show 0 ≤ 4 * S by omega)
 rw [← sq_le b0 (by omega)]
 have : 2 * Y * (2 * Y) = 4 * (Y * Y) := by grind
 omega
theorem isq_nn {S : Int} (hS : 0 ≤ S) : 0 ≤ isq S := (isq_spec hS).1
theorem isq_0 : isq 0 = 0 := isq_eq (by decide) (by decide) (by decide) (by decide)
theorem hv_le {P T d n : Int} (hd : 1 ≤ d) (h : 2 * P + T ≤ 2 * n * d) : hv P T d ≤ n := by
 have : hv P T d < n + 1 := Int.ediv_lt_of_lt_mul (by omega) (by
  have : (n + 1) * (2 * d) = 2 * n * d + 2 * d := by grind
  omega)
 omega
theorem hv_nn {P T d : Int} (hP : 0 ≤ P) (hT : 0 ≤ T) (hd : 1 ≤ d) : 0 ≤ hv P T d := Int.ediv_nonneg (by omega) (by omega)
theorem hv_spec {P T d : Int} (hd : 1 ≤ d) : 2 * d * hv P T d ≤ 2 * P + T + d ∧ 2 * P + T + d < 2 * d * hv P T d + 2 * d := by
 have h1 := Int.mul_ediv_add_emod (2 * P + T + d) (2 * d)
 have h2 := Int.emod_nonneg (2 * P + T + d) (b := 2 * d) (by omega)
 have h3 := Int.emod_lt_of_pos (2 * P + T + d) (b := 2 * d) (by omega)
 unfold hv
 omega
theorem hv_uq {P T d n : Int} (h1 : 2 * d * n ≤ 2 * P + T + d) (h2 : 2 * P + T + d < 2 * d * n + 2 * d) : hv P T d = n := ediv_uq h1 h2
theorem hv_exact {n d : Int} (hd : 1 ≤ d) : hv (n * d) 0 d = n := by
 have : 2 * d * n = 2 * (n * d) := by grind
 exact hv_uq (by omega) (by omega)
theorem haE_hv {P S d : Int} (hP : 0 ≤ P) (hS : 0 ≤ S) (hd : 1 ≤ d) (hb : hv P (isq (4 * S)) d < 9223372036854775808) : haE P S (4 * S) d = (hv P (isq (4 * S)) d, true) := by
 obtain ⟨q1, q2⟩ := isq4 hS
 have t0 := isq_nn hS
 have f0 : 0 ≤ (P + isq S) / d := Int.ediv_nonneg (by omega) (by omega)
 have h1 := Int.mul_ediv_add_emod (P + isq S) d
 have h2 := Int.emod_nonneg (P + isq S) (b := d) (by omega)
 have h3 := Int.emod_lt_of_pos (P + isq S) (b := d) (by omega)
 have hc := cmpE_le (P := 2 * P) (S := 4 * S) (d := d) (n := 2 * ((P + isq S) / d) + 1) (by omega) hd
 rw [Int.le_ediv_iff_mul_le (by omega)] at hc
 unfold haE flE
 generalize isq (4 * S) = T at *
 generalize (P + isq S) / d = f at *
 have e1 : (2 * f + 1) * d = 2 * (d * f) + d := by grind
 rw [e1] at hc
 by_cases h : 2 * (d * f) + d ≤ 2 * P + T
 ·have e2 : 2 * d * (f + 1) = 2 * (d * f) + 2 * d := by grind
  have hf : hv P T d = f + 1 := hv_uq (by omega) (by omega)
  rw [hf] at hb ⊢
  have hlt : f < 9223372036854775808 := by omega
  simp only [if_pos hlt, if_true, if_pos (hc.2 h), if_pos hb]
 ·have e2 : 2 * d * f = 2 * (d * f) := by grind
  have hf : hv P T d = f := hv_uq (by omega) (by omega)
  rw [hf] at hb ⊢
  simp only [if_pos hb, if_true, if_neg (fun k => h (hc.1 k))]
theorem sHalf_hv {ph pl q r d : Int} (hp : IsW ph) (hl : IsW pl) (hq : IsW q) (hr : IsW r) (hd : IsW d) (hv1 : VE ph q r d) (hb : hv (U ph pl) (isq (4 * (q * q * r))) d < 9223372036854775808) : F_surd_Half ph pl q r d = (hv (U ph pl) (isq (4 * (q * q * r))) d, true) := by
 have hQ := (hv1.isQ hq hr).bd
 rw [sHalf hp hl hq hr hd, if_pos hv1, four_sq, haE_hv (isU hp hl).nn hQ.2.2.1 hv1.2.2.2 hb]
theorem term_den {m s a d b : Int} (hs : CA s a) (hd : CA d b) (h0 : 1 ≤ m) (h1 : m ≤ 12) : (termZ m s a d b).2.2.2.2 ≤ 4294836225 := by
 obtain ⟨s0, sa, a1⟩ := hs
 obtain ⟨d0, db, b1⟩ := hd
 have bb := mulB (show 0 ≤ b by omega) b1 (show 0 ≤ b by omega) b1
 rcases modes h0 h1 with rfl | rfl | rfl | rfl | rfl | rfl | rfl | rfl | rfl | rfl | rfl | rfl
 case inr.inr.inr.inr.inr.inr.inl =>
  show (dodgeZ s a d b).2.2.2.2 ≤ 4294836225
  unfold dodgeZ fracZ
  split
  ·exact (by decide : (1 : Int) ≤ 4294836225)
  ·split
   ·exact (by decide : (1 : Int) ≤ 4294836225)
   ·show a - s ≤ 4294836225; omega
 case inr.inr.inr.inr.inr.inr.inr.inl =>
  show (burnZ s a d b).2.2.2.2 ≤ 4294836225
  unfold burnZ fracZ
  split
  ·exact (by decide : (1 : Int) ≤ 4294836225)
  ·split
   ·exact (by decide : (1 : Int) ≤ 4294836225)
   ·show s ≤ 4294836225; omega
 case inr.inr.inr.inr.inr.inr.inr.inr.inr.inl =>
  show (softZ s a d b).2.2.2.2 ≤ 4294836225
  unfold softZ fracZ
  split
  ·exact (by decide : (1 : Int) ≤ 4294836225)
  ·split
   ·show b ≤ 4294836225; omega
   ·split
    ·exact bb.2
    ·exact (by decide : (1 : Int) ≤ 4294836225)
 all_goals exact (by decide : (1 : Int) ≤ 4294836225)
theorem InR.T_le {x : Int × Int × Int × Int × Int} {X : Int} (h : InR x X) : 2 * x.2.1 + isq (4 * (x.2.2.1 * x.2.2.1 * x.2.2.2.1)) ≤ 2 * (X * x.2.2.2.2) := by
 have := isq4_le (Int.mul_nonneg (Int.mul_nonneg h.q0 h.q0) h.r0) (show 0 ≤ X * x.2.2.2.2 - x.2.1 by have := h.le; omega) h.sq
 omega
theorem InR.T_nn {x : Int × Int × Int × Int × Int} {X : Int} (h : InR x X) : 0 ≤ isq (4 * (x.2.2.1 * x.2.2.1 * x.2.2.2.1)) :=
 isq_nn (by have := Int.mul_nonneg (Int.mul_nonneg h.q0 h.q0) h.r0; omega)
theorem U0 (x : Int) : U 0 x = x := by unfold U; omega
theorem gMax_or (x : Int) : F_gen_Max x = 255 ∨ F_gen_Max x = 65535 := by
 rw [F_gen_Max_eq]
 simp only
 generalize (F_gen_Mod x 3 == 2) = c
 cases c <;> simp
section
variable {m d : Int} (m0 : 1 ≤ m) (m1 : m ≤ 65535) (d0 : 0 ≤ d) (d1 : d ≤ m)
include m0 m1 d0 d1
end
section
variable {m s d : Int} (m0 : 1 ≤ m) (m1 : m ≤ 65535) (s0 : 0 ≤ s) (s1 : s ≤ m) (d0 : 0 ≤ d) (d1 : d ≤ m)
include m0 m1 s0 s1 d0 d1
end
end Go.Proofs.YtdioaiepkhepaaaGreatDoor
