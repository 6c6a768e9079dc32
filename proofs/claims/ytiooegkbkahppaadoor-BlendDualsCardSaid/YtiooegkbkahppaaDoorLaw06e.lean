/- BlendStaysInRange, as a plain law (begun; builds clean). -/
import Derived.Test.YtiooegkbkahppaaDoorLaw06d
namespace Go.Proofs.YtiooegkbkahppaaDoor
open Go.RowKit
theorem bright_bd {s a d b : Int} (hs : CA s a) (hd : CA d b) (h : a ≤ 2 * s) : 0 ≤ (2 * s - a) * b ∧ (2 * s - a) * b ≤ a * b - 2 * d * (a - s) := by
  obtain ⟨s0, sa, a1⟩ := hs
  obtain ⟨d0, db, b1⟩ := hd
  have p := Int.mul_nonneg (show 0 ≤ 2 * s - a by omega) (show 0 ≤ b by omega)
  have q : 2 * d * (a - s) ≤ 2 * b * (a - s) := Int.mul_le_mul_of_nonneg_right (by omega) (by omega)
  have e1 : (2 * s - a) * b = 2 * (s * b) - a * b := by rw [Int.sub_mul, Int.mul_assoc]
  have e2 : 2 * b * (a - s) = 2 * (a * b) - 2 * (s * b) := by rw [Int.mul_assoc, Int.mul_sub, Int.mul_sub, Int.mul_comm b a, Int.mul_comm b s]
  exact ⟨p, by omega⟩
theorem cmpE_le0 {P S d n : Int} (h1 : P ≤ n * d) (h2 : S ≤ (n * d - P) * (n * d - P)) : cmpE P S d n ≤ 0 := by
  unfold cmpE
  rw [if_neg (by omega)]
  exact cmpI_le.2 h2
/-- A term's parts: p over den, beside a root in the bright half of soft-light. -/
structure InR (x : Int × Int × Int × Int × Int) (X : Int) : Prop where
  ph : x.1 = 0
  pl : 0 ≤ x.2.1
  q0 : 0 ≤ x.2.2.1
  q1 : x.2.2.1 ≤ 65535
  r0 : 0 ≤ x.2.2.2.1
  r1 : x.2.2.2.1 ≤ 4294836225
  den : 1 ≤ x.2.2.2.2
  le : x.2.1 ≤ X * x.2.2.2.2
  sq : x.2.2.1 * x.2.2.1 * x.2.2.2.1 ≤ (X * x.2.2.2.2 - x.2.1) * (X * x.2.2.2.2 - x.2.1)
theorem InR.frac {p den X : Int} (h0 : 0 ≤ p) (h1 : 1 ≤ den) (h2 : p ≤ X * den) : InR (fracZ p den) X :=
  ⟨rfl, h0, Int.le_refl 0, show (0 : Int) ≤ 65535 by decide, Int.le_refl 0, show (0 : Int) ≤ 4294836225 by decide, h1, h2, by
    have := Int.mul_nonneg (show 0 ≤ X * den - p by omega) (show 0 ≤ X * den - p by omega)
    simp only [fracZ]
    omega⟩
theorem term_InR {m s a d b : Int} (hs : CA s a) (hd : CA d b) (h0 : 1 ≤ m) (h1 : m ≤ 12) : InR (termZ m s a d b) (a * b) := by
  have p := CA.prods hs hd
  have q := screen_in hs hd
  have hb := hard_bd hs hd
  have bu := burn_bd hs hd
  have z1 := soft1_bd hs hd
  have z2 := soft2_in hd
  have z3 := soft2_bd hs hd
  have br := bright_bd hs hd
  obtain ⟨s0, sa, a1⟩ := hs
  obtain ⟨d0, db, b1⟩ := hd
  have scr := Int.mul_nonneg (show 0 ≤ a - s by omega) (show 0 ≤ b - d by omega)
  have e1 : (a - s) * (b - d) = a * b - d * a - s * b + s * d := by rw [Int.sub_mul, Int.mul_sub, Int.mul_sub, Int.mul_comm a d]; omega
  have one (x : Int) (h : 0 ≤ x) (k : x ≤ a * b) : InR (fracZ x 1) (a * b) := .frac h (by decide) (by omega)
  have e2 : 2 * s * d = 2 * (s * d) := Int.mul_assoc _ _ _
  have dark1 : 2 * d ≤ b → 2 * (s * d) ≤ a * b := fun h => by
    have := (mulB s0 sa (show 0 ≤ 2 * d by omega) h).2
    have e : s * (2 * d) = 2 * (s * d) := Int.mul_left_comm _ _ _
    omega
  have dark2 : 2 * s ≤ a → 2 * (s * d) ≤ a * b := fun h => by
    have := (mulB (show 0 ≤ 2 * s by omega) h d0 db).2
    omega
  rcases modes h0 h1 with rfl | rfl | rfl | rfl | rfl | rfl | rfl | rfl | rfl | rfl | rfl | rfl
  · exact one _ p.1 (by omega)
  · exact one _ (by omega) (by omega)
  · exact one _ (by omega) (by omega)
  · show InR (fracZ (if 2 * d ≤ b then 2 * s * d else hardZ s a d b) 1) (a * b)
    split
    · rename_i h
      have := dark1 h
      exact one _ (by omega) (by omega)
    · have := hb (Or.inr (by omega))
      exact one _ (by unfold hardZ; omega) (by unfold hardZ; omega)
  · show InR (fracZ (if d * a < s * b then d * a else s * b) 1) (a * b)
    split <;> exact one _ (by omega) (by omega)
  · show InR (fracZ (if d * a > s * b then d * a else s * b) 1) (a * b)
    split <;> exact one _ (by omega) (by omega)
  · show InR (dodgeZ s a d b) (a * b)
    unfold dodgeZ
    split
    · exact one _ (by decide) (by omega)
    · split
      · exact one _ (by omega) (Int.le_refl _)
      · rename_i k1 k2
        have k3 : 0 < a - s := by
          rcases Int.lt_or_le 0 (a - s) with h | h
          · exact h
          · have : a - s = 0 := by omega
            rw [this, Int.mul_zero] at k2
            omega
        have k4 := mulB (show 0 ≤ a by omega) (Int.le_refl a) (show 0 ≤ d * a by omega) (show d * a ≤ b * (a - s) by omega)
        have e3 : a * a * d = a * (d * a) := by rw [Int.mul_assoc, Int.mul_comm a d]
        have e4 : a * b * (a - s) = a * (b * (a - s)) := Int.mul_assoc _ _ _
        exact .frac (by omega) (by omega) (by omega)
  · show InR (burnZ s a d b) (a * b)
    unfold burnZ
    split
    · exact one _ (by omega) (Int.le_refl _)
    · split
      · exact one _ (by decide) (by omega)
      · rename_i k1 k2
        have k3 := bu (by omega)
        have k4 : 1 ≤ s := by
          rcases Int.lt_or_le 0 s with h | h
          · exact h
          · have : s = 0 := by omega
            subst this
            have := k3.2.2.1
            omega
        exact .frac (by omega) k4 (by omega)
  · show InR (fracZ (if 2 * s ≤ a then 2 * s * d else hardZ s a d b) 1) (a * b)
    split
    · rename_i h
      have := dark2 h
      exact one _ (by omega) (by omega)
    · have := hb (Or.inl (by omega))
      exact one _ (by unfold hardZ; omega) (by unfold hardZ; omega)
  · show InR (softZ s a d b) (a * b)
    unfold softZ
    split
    · exact one _ (by decide) (by omega)
    · rename_i hb0
      split
      · rename_i h2
        have k := z1 h2
        have k2 := mulB (show 0 ≤ d * a by omega) (show d * a ≤ a * b by omega) (show 0 ≤ b by omega) (Int.le_refl b)
        exact .frac (by omega) (by omega) (by omega)
      · split
        · rename_i h2 h4
          have y := z2 h4
          obtain ⟨r1, r2, r3, r4, r5, r6, r7⟩ := z3 (by omega) h4
          have k1 := mulB r4 (show (2 * s - a) * d ≤ d * a by
            have := mulB (show 0 ≤ 2 * s - a by omega) (show 2 * s - a ≤ a by omega) d0 (Int.le_refl d)
            rw [Int.mul_comm d a]; exact this.2) (show 0 ≤ 16 * d * d + 3 * b * b - 12 * d * b by omega) (show 16 * d * d + 3 * b * b - 12 * d * b ≤ 3 * b * b by omega)
          have e5 : d * a * (3 * b * b) = 3 * (d * a * (b * b)) := by rw [Int.mul_assoc 3 b b, Int.mul_left_comm (d * a) 3]
          have k2 := mulB (x := 4 * (d * a)) (A := a * b) (y := b * b) (B := b * b) (by omega) (by
            have : 4 * d * a ≤ b * a := Int.mul_le_mul_of_nonneg_right h4 (by omega)
            have e : 4 * d * a = 4 * (d * a) := Int.mul_assoc _ _ _
            rw [Int.mul_comm a b]
            omega) r2 (Int.le_refl _)
          have e6 : 4 * (d * a) * (b * b) = 4 * (d * a * (b * b)) := Int.mul_assoc _ _ _
          have k3 : 1 * 1 ≤ b * b := Int.mul_le_mul (by omega) (by omega) (by decide) (by omega)
          exact .frac (by omega) (by omega) (by omega)
        · rename_i h2 h4
          have k := br (by omega)
          have k1 := mulB (show 0 ≤ 2 * d by omega) (Int.le_refl (2 * d)) (show 0 ≤ a - s by omega) (Int.le_refl (a - s))
          have k2 := mulB d0 (show d ≤ 65535 by omega) (show 0 ≤ b by omega) b1
          have k3 := mulB k.1 k.2 k.1 k.2
          have k4 := mulB d0 db (show 0 ≤ b by omega) (Int.le_refl b)
          have k5 := mulB (Int.mul_nonneg (show 0 ≤ 2 * s - a by omega) (show 0 ≤ 2 * s - a by omega)) (Int.le_refl _) k4.1 k4.2
          have e7 : (2 * s - a) * (2 * s - a) * (b * b) = (2 * s - a) * b * ((2 * s - a) * b) := by rw [Int.mul_assoc, Int.mul_assoc, Int.mul_left_comm (2 * s - a) b b]
          rw [e7] at k5
          exact ⟨rfl, k1.1, show 0 ≤ 2 * s - a by omega, show 2 * s - a ≤ 65535 by omega, k2.1, k2.2, Int.le_refl 1, by show 2 * d * (a - s) ≤ a * b * 1; omega, by
            show (2 * s - a) * (2 * s - a) * (d * b) ≤ (a * b * 1 - 2 * d * (a - s)) * (a * b * 1 - 2 * d * (a - s))
            rw [Int.mul_one]
            exact Int.le_trans k5.2 k3.2⟩
  · show InR (fracZ ((if d * a > s * b then d * a else s * b) - (if d * a < s * b then d * a else s * b)) 1) (a * b)
    exact one _ q.2.2.2.2.2.1 (by split <;> split <;> omega)
  · show InR (fracZ (s * b + d * a - 2 * s * d) 1) (a * b)
    exact one _ (by omega) (by omega)
theorem blendStaysInRange (p0 p1 p2 p3 p4 p5 : Int) : F_law06_BlendStaysInRange p0 p1 p2 p3 p4 p5 = true := by
  have a := gAlphaCA p1 p2 (gMax16 p5)
  have b := gAlphaCA p3 p4 (gMax16 p5)
  have hm := mode12 p0
  rw [F_law06_BlendStaysInRange_eq]
  simp only [awake06]
  generalize F_gen_Alpha p1 p2 (F_gen_Max p5) = x at *
  generalize F_gen_Alpha p3 p4 (F_gen_Max p5) = y at *
  generalize IntKind.i64.wrap (1 + F_gen_Mod p0 12) = m at *
  obtain ⟨s, a'⟩ := x
  obtain ⟨d, b'⟩ := y
  simp only at a b ⊢
  have hw := exact_W m (w16 a.both.1) a' d (w16 b.both.2)
  have hr := term_InR a b hm.1 hm.2
  have p := CA.prods a b
  rw [exactCA a b hm.1 hm.2] at hw ⊢
  generalize termZ m s a' d b' = t at hw hr ⊢
  obtain ⟨ph, pl, q, r, den⟩ := t
  obtain ⟨k1, k2, k3, k4, k5, k6, k7, k8, k9⟩ := hr
  simp only [XWof6] at hw k1 k2 k3 k4 k5 k6 k7 k8 k9 ⊢
  subst k1
  have hv : VE 0 q r den := ⟨by decide, by omega, by omega, k7⟩
  have hn : IsW (a' * b') := ⟨by omega, by omega⟩
  rw [u64_in (x := a' * b') (by omega) (by omega), rValid, rCompareE hw.ph hw.pl hw.q hw.r hw.d hn, decide_eq_true hv, if_pos hv]
  have U0 : U 0 pl = pl := by unfold U; omega
  have := cmpE_le0 (P := U 0 pl) (S := q * q * r) (d := den) (n := a' * b') (by rw [U0]; exact k8) (by rw [U0]; exact k9)
  simp only [Bool.not_true, cond_false, cond_true, decide_eq_true this]
end Go.Proofs.YtiooegkbkahppaaDoor
