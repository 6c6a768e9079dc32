/- Blending as whole numbers. No condition. -/
import Derived.Test.YtdioaiepkhepaaaGreatDoorSm06
import Derived.Test.YtdioaiepkhepaaaGreatDoorLaw03
namespace Go.Proofs.YtdioaiepkhepaaaGreatDoor
open Go.RowKit
theorem mulB {x y A B : Int} (x0 : 0 ≤ x) (x1 : x ≤ A) (y0 : 0 ≤ y) (y1 : y ≤ B) : 0 ≤ x * y ∧ x * y ≤ A * B :=
 ⟨Int.mul_nonneg x0 y0, Int.mul_le_mul x1 y1 y0 (by omega)⟩
structure CA (s a : Int) : Prop where
 s0 : 0 ≤ s
 sa : s ≤ a
 a1 : a ≤ 65535
def fracZ (p den : Int) : Int × Int × Int × Int × Int := (0, p, 0, 0, den)
def hardZ (s a d b : Int) : Int := a * b - 2 * (b - d) * (a - s)
def dodgeZ (s a d b : Int) : Int × Int × Int × Int × Int := if d = 0 then fracZ 0 1 else if b * (a - s) ≤ d * a then fracZ (a * b) 1 else fracZ (a * a * d) (a - s)
def burnZ (s a d b : Int) : Int × Int × Int × Int × Int := if d = b then fracZ (a * b) 1 else if s * b ≤ (b - d) * a then fracZ 0 1 else fracZ (a * b * s - (b - d) * a * a) s
def softZ (s a d b : Int) : Int × Int × Int × Int × Int :=
 if b = 0 then fracZ 0 1
 else if 2 * s ≤ a then fracZ (d * a * b - (a - 2 * s) * d * (b - d)) b
 else if 4 * d ≤ b then fracZ (d * a * (b * b) + (2 * s - a) * d * (16 * d * d + 3 * b * b - 12 * d * b)) (b * b)
 else (0, 2 * d * (a - s), 2 * s - a, d * b, 1)
def termZ (m s a d b : Int) : Int × Int × Int × Int × Int :=
 if m = 1 then fracZ (s * b) 1
 else if m = 2 then fracZ (s * d) 1
 else if m = 3 then fracZ (s * b + d * a - s * d) 1
 else if m = 4 then fracZ (if 2 * d ≤ b then 2 * s * d else hardZ s a d b) 1
 else if m = 5 then fracZ (if d * a < s * b then d * a else s * b) 1
 else if m = 6 then fracZ (if d * a > s * b then d * a else s * b) 1
 else if m = 7 then dodgeZ s a d b
 else if m = 8 then burnZ s a d b
 else if m = 9 then fracZ (if 2 * s ≤ a then 2 * s * d else hardZ s a d b) 1
 else if m = 10 then softZ s a d b
 else if m = 11 then fracZ ((if d * a > s * b then d * a else s * b) - (if d * a < s * b then d * a else s * b)) 1
 else fracZ (s * b + d * a - 2 * s * d) 1
section
variable {s a d b : Int} (hs : CA s a) (hd : CA d b)
include hs hd
theorem CA.prods : 0 ≤ s * b ∧ s * b ≤ 4294836225 ∧ 0 ≤ d * a ∧ d * a ≤ 4294836225 ∧ 0 ≤ s * d ∧ s * d ≤ s * b ∧ s * d ≤ d * a ∧ 0 ≤ a * b ∧ a * b ≤ 4294836225 ∧ s * b ≤ a * b ∧ d * a ≤ a * b := by
 obtain ⟨s0, sa, a1⟩ := hs
 obtain ⟨d0, db, b1⟩ := hd
 have p1 := mulB s0 (show s ≤ 65535 by omega) (show 0 ≤ b by omega) b1
 have p2 := mulB d0 (show d ≤ 65535 by omega) (show 0 ≤ a by omega) a1
 have p3 := mulB s0 (show s ≤ 65535 by omega) d0 (show d ≤ 65535 by omega)
 have p4 := mulB (show 0 ≤ a by omega) a1 (show 0 ≤ b by omega) b1
 have q1 : s * d ≤ s * b := Int.mul_le_mul_of_nonneg_left db s0
 have q2 : d * s ≤ d * a := Int.mul_le_mul_of_nonneg_left sa d0
 have q3 : s * b ≤ a * b := Int.mul_le_mul_of_nonneg_right sa (by omega)
 have q4 : d * a ≤ b * a := Int.mul_le_mul_of_nonneg_right db (by omega)
 rw [Int.mul_comm d s] at q2
 rw [Int.mul_comm b a] at q4
 omega
theorem hard_bd (h : a ≤ 2 * s ∨ b ≤ 2 * d) : 0 ≤ 2 * (b - d) * (a - s) ∧ 2 * (b - d) * (a - s) ≤ a * b := by
 obtain ⟨s0, sa, a1⟩ := hs
 obtain ⟨d0, db, b1⟩ := hd
 rcases h with h | h
 ·have p := mulB (x := b - d) (y := 2 * (a - s)) (A := b) (B := a) (by omega) (by omega) (by omega) (by omega)
  have e : 2 * (b - d) * (a - s) = (b - d) * (2 * (a - s)) := by rw [Int.mul_comm 2 (b - d), Int.mul_assoc]
  rw [e, Int.mul_comm a b]; exact p
 ·have p := mulB (x := 2 * (b - d)) (y := a - s) (A := b) (B := a) (by omega) (by omega) (by omega) (by omega)
  rw [Int.mul_comm a b]; exact p
theorem hard_wrap (h : a ≤ 2 * s ∨ b ≤ 2 * d) : IntKind.u64.wrap ((IntKind.u64.wrap (a * b)) - (IntKind.u64.wrap ((IntKind.u64.wrap (2 * (IntKind.u64.wrap (b - d)))) * (IntKind.u64.wrap (a - s))))) = hardZ s a d b := by
 have p := CA.prods hs hd
 have q := hard_bd hs hd h
 obtain ⟨s0, sa, a1⟩ := hs
 obtain ⟨d0, db, b1⟩ := hd
 rw [u64_in (x := a * b) (by omega) (by omega), u64_in (x := b - d) (by omega) (by omega), u64_in (x := 2 * (b - d)) (by omega) (by omega), u64_in (x := a - s) (by omega) (by omega), u64_in (x := 2 * (b - d) * (a - s)) q.1 (by omega)]
 exact u64_in (by omega) (by omega)
theorem low_wrap : IntKind.u64.wrap ((IntKind.u64.wrap (2 * s)) * d) = 2 * s * d := by
 have p := CA.prods hs hd
 obtain ⟨s0, sa, a1⟩ := hs
 obtain ⟨d0, db, b1⟩ := hd
 have e : 2 * s * d = 2 * (s * d) := Int.mul_assoc _ _ _
 rw [u64_in (x := 2 * s) (by omega) (by omega)]
 exact u64_in (by omega) (by omega)
theorem bHard (t : Bool) (h : t = false → a ≤ 2 * s ∨ b ≤ 2 * d) : F_blend_hard s a d b t = if t = true then 2 * s * d else hardZ s a d b := by
 rw [F_blend_hard_eq]
 cases t with
 | true => simp only [cond_true, if_true]; exact low_wrap hs hd
 | false => simp only [cond_false]; rw [hard_wrap hs hd (h rfl)]; rfl
theorem bDodge : F_blend_dodge s a d b = dodgeZ s a d b := by
 have p := CA.prods hs hd
 obtain ⟨s0, sa, a1⟩ := hs
 obtain ⟨d0, db, b1⟩ := hd
 have p5 := mulB (show 0 ≤ b by omega) b1 (show 0 ≤ a - s by omega) (show a - s ≤ 65535 by omega)
 have p6 := mulB (show 0 ≤ a by omega) a1 (show 0 ≤ a by omega) a1
 have p7 := mulB p6.1 p6.2 d0 (show d ≤ 65535 by omega)
 rw [F_blend_dodge_eq]
 simp only [F_blend_fraction_eq, dodgeZ, fracZ]
 rw [u64_in (x := d * a) (by omega) (by omega), u64_in (x := a - s) (by omega) (by omega), u64_in (x := b * (a - s)) p5.1 (by omega), u64_in (x := a * b) (by omega) (by omega), u64_in (x := a * a) p6.1 (by omega), u64_in (x := a * a * d) p7.1 (by omega)]
 by_cases h1 : d = 0
 ·simp [h1]
 ·have e1 : (d == 0) = false := by simp [h1]
  by_cases h2 : b * (a - s) ≤ d * a
  ·have e2 : decide (d * a ≥ b * (a - s)) = true := decide_eq_true h2
   simp only [e1, e2, cond_true, cond_false, if_neg h1, if_pos h2]
  ·have e2 : decide (d * a ≥ b * (a - s)) = false := decide_eq_false h2
   simp only [e1, e2, cond_false, if_neg h1, if_neg h2]
theorem burn_bd (h : (b - d) * a < s * b) : 0 ≤ a * b * s ∧ a * b * s ≤ 281462092005375 ∧ 0 ≤ (b - d) * a ∧ 0 ≤ (b - d) * a * a ∧ (b - d) * a * a ≤ a * b * s := by
 have p := CA.prods hs hd
 obtain ⟨s0, sa, a1⟩ := hs
 obtain ⟨d0, db, b1⟩ := hd
 have p5 := mulB p.2.2.2.2.2.2.2.1 p.2.2.2.2.2.2.2.2.1 s0 (show s ≤ 65535 by omega)
 have p6 := Int.mul_nonneg (show 0 ≤ b - d by omega) (show 0 ≤ a by omega)
 have p7 := Int.mul_nonneg p6 (show 0 ≤ a by omega)
 have p8 : (b - d) * a * a ≤ s * b * a := Int.mul_le_mul_of_nonneg_right (by omega) (by omega)
 have e : s * b * a = a * b * s := by rw [Int.mul_comm (s * b) a, Int.mul_comm s b, Int.mul_assoc]
 rw [e] at p8
 exact ⟨p5.1, by omega, p6, p7, p8⟩
theorem bBurn : F_blend_burn s a d b = burnZ s a d b := by
 have p := CA.prods hs hd
 have bb := burn_bd hs hd
 obtain ⟨s0, sa, a1⟩ := hs
 obtain ⟨d0, db, b1⟩ := hd
 have p5 := mulB (show 0 ≤ b - d by omega) (show b - d ≤ 65535 by omega) (show 0 ≤ a by omega) a1
 rw [F_blend_burn_eq]
 simp only [F_blend_fraction_eq, burnZ, fracZ]
 rw [u64_in (x := b - d) (by omega) (by omega), u64_in (x := (b - d) * a) p5.1 (by omega), u64_in (x := s * b) (by omega) (by omega), u64_in (x := a * b) (by omega) (by omega)]
 by_cases h1 : d = b
 ·simp [h1]
 ·have e1 : (d == b) = false := by simp [h1]
  by_cases h2 : s * b ≤ (b - d) * a
  ·have e2 : decide ((b - d) * a ≥ s * b) = true := decide_eq_true h2
   simp only [e1, e2, cond_true, cond_false, if_neg h1, if_pos h2]
  ·have e2 : decide ((b - d) * a ≥ s * b) = false := decide_eq_false h2
   obtain ⟨q1, q2, q3, q4, q5⟩ := bb (by omega)
   rw [u64_in (x := a * b * s) q1 (by omega), u64_in (x := (b - d) * a * a) q4 (by omega), u64_in (x := a * b * s - (b - d) * a * a) (by omega) (by omega)]
   simp only [e1, e2, cond_false, if_neg h1, if_neg h2]
theorem soft1_bd (h : 2 * s ≤ a) : 0 ≤ d * a * b ∧ d * a * b ≤ 281462092005375 ∧ 0 ≤ (a - 2 * s) * d ∧ (a - 2 * s) * d ≤ 4294836225 ∧ 0 ≤ (a - 2 * s) * d * (b - d) ∧ (a - 2 * s) * d * (b - d) ≤ d * a * b := by
 obtain ⟨s0, sa, a1⟩ := hs
 obtain ⟨d0, db, b1⟩ := hd
 have p1 := mulB d0 (show d ≤ 65535 by omega) (show 0 ≤ a by omega) a1
 have p2 := mulB p1.1 p1.2 (show 0 ≤ b by omega) b1
 have p3 := mulB (show 0 ≤ a - 2 * s by omega) (show a - 2 * s ≤ a by omega) d0 (Int.le_refl d)
 have p4 := mulB p3.1 p3.2 (show 0 ≤ b - d by omega) (show b - d ≤ b by omega)
 rw [Int.mul_comm a d] at p3 p4
 exact ⟨p2.1, by omega, p3.1, by omega, p4.1, p4.2⟩
omit hs in
theorem soft2_in (h : 4 * d ≤ b) : 0 ≤ 16 * d * d ∧ 16 * d * d ≤ 12 * d * b ∧ 0 ≤ 3 * b * b ∧ 12 * d * b ≤ 3 * b * b ∧ 3 * b * b ≤ 12884508675 := by
 obtain ⟨d0, db, b1⟩ := hd
 have p1 := Int.mul_nonneg (show 0 ≤ 16 * d by omega) d0
 have p2 : 4 * d * (4 * d) ≤ 4 * d * b := Int.mul_le_mul_of_nonneg_left h (by omega)
 have p3 : 4 * d * b ≤ b * b := Int.mul_le_mul_of_nonneg_right h (by omega)
 have p4 := mulB (show 0 ≤ b by omega) b1 (show 0 ≤ b by omega) b1
 have p5 := Int.mul_nonneg d0 (show 0 ≤ b by omega)
 have e1 : 16 * d * d = 16 * (d * d) := Int.mul_assoc _ _ _
 have e2 : 12 * d * b = 12 * (d * b) := Int.mul_assoc _ _ _
 have e3 : 3 * b * b = 3 * (b * b) := Int.mul_assoc _ _ _
 have e4 : 4 * d * (4 * d) = 16 * (d * d) := by rw [Int.mul_assoc, Int.mul_left_comm d 4 d]; omega
 have e5 : 4 * d * b = 4 * (d * b) := Int.mul_assoc _ _ _
 omega
theorem soft2_bd (h : a ≤ 2 * s) (h4 : 4 * d ≤ b) : 0 ≤ d * a * (b * b) ∧ 0 ≤ b * b ∧ b * b ≤ 4294836225 ∧ 0 ≤ (2 * s - a) * d ∧ (2 * s - a) * d ≤ 4294836225 ∧ 0 ≤ (2 * s - a) * d * (16 * d * d + 3 * b * b - 12 * d * b) ∧ d * a * (b * b) + (2 * s - a) * d * (16 * d * d + 3 * b * b - 12 * d * b) ≤ 18445618199572250625 := by
 have q := soft2_in hd h4
 obtain ⟨s0, sa, a1⟩ := hs
 obtain ⟨d0, db, b1⟩ := hd
 have p1 := mulB d0 (show d ≤ 65535 by omega) (show 0 ≤ a by omega) a1
 have p2 := mulB (show 0 ≤ b by omega) b1 (show 0 ≤ b by omega) b1
 have p3 := mulB p1.1 p1.2 p2.1 p2.2
 have p4 := mulB (show 0 ≤ 2 * s - a by omega) (show 2 * s - a ≤ a by omega) d0 (Int.le_refl d)
 have p5 := mulB p4.1 p4.2 (show 0 ≤ 16 * d * d + 3 * b * b - 12 * d * b by omega) (show 16 * d * d + 3 * b * b - 12 * d * b ≤ 3 * b * b by omega)
 have e1 : a * d * (3 * b * b) = 3 * (d * a * (b * b)) := by rw [Int.mul_assoc 3 b b, Int.mul_left_comm (a * d) 3, Int.mul_comm a d]
 have p6 := mulB (x := 4 * (d * a)) (A := b * a) (y := b * b) (B := b * b) (by omega) (by
  have : 4 * d * a ≤ b * a := Int.mul_le_mul_of_nonneg_right h4 (by omega)
  have e : 4 * d * a = 4 * (d * a) := Int.mul_assoc _ _ _
  omega) p2.1 (Int.le_refl _)
 have e2 : 4 * (d * a) * (b * b) = 4 * (d * a * (b * b)) := Int.mul_assoc _ _ _
 have p7 := mulB (show 0 ≤ b by omega) b1 (show 0 ≤ a by omega) a1
 have p8 := mulB p7.1 p7.2 p2.1 p2.2
 have p9 : a * d ≤ 4294836225 := by rw [Int.mul_comm]; exact p1.2
 refine ⟨p3.1, p2.1, p2.2, p4.1, by omega, p5.1, ?_⟩
 omega
theorem bSoft : F_blend_soft s a d b = softZ s a d b := by
 have p := CA.prods hs hd
 have z1 := soft1_bd hs hd
 have z2 := soft2_in hd
 have z3 := soft2_bd hs hd
 obtain ⟨s0, sa, a1⟩ := hs
 obtain ⟨d0, db, b1⟩ := hd
 rw [F_blend_soft_eq]
 simp only [F_blend_fraction_eq, softZ, fracZ]
 by_cases h1 : b = 0
 ·simp [h1]
 ·have e1 : (b == 0) = false := by simp [h1]
  rw [u64_in (x := 2 * s) (by omega) (by omega)]
  by_cases h2 : 2 * s ≤ a
  ·obtain ⟨q1, q2, q3, q4, q5, q6⟩ := z1 h2
   have e2 : decide (2 * s ≤ a) = true := decide_eq_true h2
   simp only [e1, e2, cond_true, cond_false, if_neg h1, if_pos h2]
   rw [u64_in (x := d * a) (by omega) (by omega), u64_in (x := d * a * b) q1 (by omega), u64_in (x := a - 2 * s) (by omega) (by omega), u64_in (x := (a - 2 * s) * d) q3 (by omega), u64_in (x := b - d) (by omega) (by omega), u64_in (x := (a - 2 * s) * d * (b - d)) q5 (by omega), u64_in (x := d * a * b - (a - 2 * s) * d * (b - d)) (by omega) (by omega)]
  ·have e2 : decide (2 * s ≤ a) = false := decide_eq_false h2
   rw [u64_in (x := 4 * d) (by omega) (by omega)]
   by_cases h4 : 4 * d ≤ b
   ·obtain ⟨q1, q2, q3, q4, q5⟩ := z2 h4
    obtain ⟨r1, r2, r3, r4, r5, r6, r7⟩ := z3 (by omega) h4
    have e4 : decide (4 * d ≤ b) = true := decide_eq_true h4
    simp only [e1, e2, e4, cond_true, cond_false, if_neg h1, if_neg h2, if_pos h4]
    have p10 := mulB p.2.2.1 p.2.2.2.1 (show 0 ≤ b by omega) b1
    have e5 : d * a * b * b = d * a * (b * b) := Int.mul_assoc _ _ _
    rw [u64_in (x := d * a) (by omega) (by omega), u64_in (x := d * a * b) p10.1 (by omega), e5, u64_in (x := d * a * (b * b)) r1 (by omega), u64_in (x := 2 * s - a) (by omega) (by omega), u64_in (x := (2 * s - a) * d) r4 (by omega), u64_in (x := 16 * d) (by omega) (by omega), u64_in (x := 16 * d * d) q1 (by omega), u64_in (x := 3 * b) (by omega) (by omega), u64_in (x := 3 * b * b) q3 (by omega), u64_in (x := 16 * d * d + 3 * b * b) (by omega) (by omega), u64_in (x := 12 * d) (by omega) (by omega), u64_in (x := 12 * d * b) (by omega) (by omega), u64_in (x := 16 * d * d + 3 * b * b - 12 * d * b) (by omega) (by omega), u64_in (x := (2 * s - a) * d * (16 * d * d + 3 * b * b - 12 * d * b)) r6 (by omega), u64_in (x := d * a * (b * b) + (2 * s - a) * d * (16 * d * d + 3 * b * b - 12 * d * b)) (by omega) (by omega), u64_in (x := b * b) r2 (by omega)]
   ·have e4 : decide (4 * d ≤ b) = false := decide_eq_false h4
    simp only [e1, e2, e4, cond_false, if_neg h1, if_neg h2, if_neg h4]
    have p11 := mulB (show 0 ≤ 2 * d by omega) (show 2 * d ≤ 131070 by omega) (show 0 ≤ a - s by omega) (show a - s ≤ 65535 by omega)
    have p12 := mulB d0 (show d ≤ 65535 by omega) (show 0 ≤ b by omega) b1
    rw [u64_in (x := 2 * d) (by omega) (by omega), u64_in (x := a - s) (by omega) (by omega), u64_in (x := 2 * d * (a - s)) p11.1 (by omega), u64_in (x := 2 * s - a) (by omega) (by omega), u64_in (x := d * b) p12.1 (by omega)]
end
end Go.Proofs.YtdioaiepkhepaaaGreatDoor
namespace Go.Proofs.YtdioaiepkhepaaaGreatDoor
open Go.RowKit
theorem bif_ite {α : Type} (c : Prop) [Decidable c] (x y : α) : (bif decide c then x else y) = if c then x else y := by by_cases h : c <;> simp [h]
theorem beq_dec (x y : Int) : (x == y) = decide (x = y) := rfl
section
variable {s a d b : Int} (hs : CA s a) (hd : CA d b)
include hs hd
theorem screen_in : 0 ≤ s * b + d * a ∧ s * b + d * a ≤ 8589672450 ∧ 0 ≤ s * b + d * a - s * d ∧ 0 ≤ 2 * s * d ∧ 2 * s * d ≤ s * b + d * a ∧
 0 ≤ (if d * a > s * b then d * a else s * b) - (if d * a < s * b then d * a else s * b) ∧ (if d * a > s * b then d * a else s * b) - (if d * a < s * b then d * a else s * b) ≤ 4294836225 := by
 have p := CA.prods hs hd
 have e : 2 * s * d = 2 * (s * d) := Int.mul_assoc _ _ _
 refine ⟨by omega, by omega, by omega, by omega, by omega, ?_, ?_⟩ <;> split <;> split <;> omega
theorem bTerm (m : Int) : F_blend_term m s a d b = termZ m s a d b := by
 have p := CA.prods hs hd
 have q := screen_in hs hd
 have s2 : s ≤ 65535 := by have := hs.sa; have := hs.a1; omega
 have d2 : d ≤ 65535 := by have := hd.sa; have := hd.a1; omega
 have hl := low_wrap hs hd
 have s0 := hs.s0
 have d0 := hd.s0
 rw [F_blend_term_eq]
 simp only [F_blend_fraction_eq, bDodge hs hd, bBurn hs hd, bSoft hs hd]
 rw [u64_in (x := 2 * d) (by omega) (by omega), bHard hs hd (decide (2 * d ≤ b)) (fun h => Or.inr (by simp at h; omega)), hl, u64_in (x := 2 * s) (by omega) (by omega), bHard hs hd (decide (2 * s ≤ a)) (fun h => Or.inl (by simp at h; omega)),
  u64_in (x := s * b) (by omega) (by omega), u64_in (x := d * a) (by omega) (by omega), u64_in (x := s * d) (by omega) (by omega), u64_in (x := s * b + d * a) (by omega) (by omega), u64_in (x := s * b + d * a - s * d) (by omega) (by omega), u64_in (x := s * b + d * a - 2 * s * d) (by omega) (by omega),
  u64_in q.2.2.2.2.2.1 (by omega)]
 simp only [beq_dec, bif_ite, decide_eq_true_eq, termZ, fracZ]
theorem rHard : F_r6_hard s a d b = if 2 * s ≤ a then 2 * s * d else hardZ s a d b := by
 have s2 : s ≤ 65535 := by have := hs.sa; have := hs.a1; omega
 have s0 := hs.s0
 rw [F_r6_hard_eq, low_wrap hs hd, u64_in (x := 2 * s) (by omega) (by omega), bif_ite]
 split
 ·rfl
 ·exact hard_wrap hs hd (by omega)
end
theorem hiW0 {X : Int} (h0 : 0 ≤ X) (h1 : X < 18446744073709551616) : hiW X = 0 ∧ loW X = X := by unfold hiW loW; omega
theorem rWide {x y z : Int} (h1 : x * y * z < two128) : F_r6_wide x y z = (hiW (x * y * z), loW (x * y * z)) := by
 rw [F_r6_wide_eq]
 simp only [F_r1_Mul, F_r1_MulSmall, mul128, U_hl, if_pos h1]
theorem rSub {X Y : Int} (h : Y ≤ X) (hy : 0 ≤ Y) (h1 : X < 18446744073709551616) : F_r1_Sub (hiW X) (loW X) (hiW Y) (loW Y) = (0, X - Y, true) := by
 have e := hiW0 (X := X - Y) (by omega) (by omega)
 unfold F_r1_Sub sub128
 rw [U_hl, U_hl, if_pos h, e.1, e.2]
theorem rAdd {X Y : Int} (hx : 0 ≤ X) (hy : 0 ≤ Y) (h1 : X + Y < 18446744073709551616) : F_r1_Add (hiW X) (loW X) (hiW Y) (loW Y) = (0, X + Y, true) := by
 have e := hiW0 (X := X + Y) (by omega) (by omega)
 unfold F_r1_Add add128
 rw [U_hl, U_hl, if_pos (by rw [two128_eq]; omega), e.1, e.2]
section
variable {s a d b : Int} (hs : CA s a) (hd : CA d b)
include hs hd
theorem rSoft : F_r6_soft s a d b = softZ s a d b := by
 have p := CA.prods hs hd
 have z1 := soft1_bd hs hd
 have z2 := soft2_in hd
 have z3 := soft2_bd hs hd
 obtain ⟨s0, sa, a1⟩ := hs
 obtain ⟨d0, db, b1⟩ := hd
 rw [F_r6_soft_eq]
 simp only [F_r6_exact_eq, softZ, fracZ]
 by_cases h1 : b = 0
 ·simp [h1]
 ·have e1 : (b == 0) = false := by simp [h1]
  rw [u64_in (x := 2 * s) (by omega) (by omega)]
  by_cases h2 : 2 * s ≤ a
  ·obtain ⟨q1, q2, q3, q4, q5, q6⟩ := z1 h2
   have e2 : decide (2 * s ≤ a) = true := decide_eq_true h2
   simp only [e1, e2, cond_true, cond_false, if_neg h1, if_pos h2]
   rw [u64_in (x := d * a) (by omega) (by omega), u64_in (x := a - 2 * s) (by omega) (by omega), u64_in (x := (a - 2 * s) * d) q3 (by omega), u64_in (x := b - d) (by omega) (by omega),
    rWide (x := d * a) (y := b) (z := 1) (by rw [Int.mul_one, two128_eq]; omega), rWide (x := (a - 2 * s) * d) (y := b - d) (z := 1) (by rw [Int.mul_one, two128_eq]; omega), Int.mul_one, Int.mul_one, rSub q6 q5 (by omega)]
  ·have e2 : decide (2 * s ≤ a) = false := decide_eq_false h2
   rw [u64_in (x := 4 * d) (by omega) (by omega)]
   by_cases h4 : 4 * d ≤ b
   ·obtain ⟨q1, q2, q3, q4, q5⟩ := z2 h4
    obtain ⟨r1, r2, r3, r4, r5, r6, r7⟩ := z3 (by omega) h4
    have e4 : decide (4 * d ≤ b) = true := decide_eq_true h4
    simp only [e1, e2, e4, cond_true, cond_false, if_neg h1, if_neg h2, if_pos h4]
    rw [u64_in (x := d * a) (by omega) (by omega), u64_in (x := 2 * s - a) (by omega) (by omega), u64_in (x := (2 * s - a) * d) r4 (by omega), u64_in (x := 16 * d) (by omega) (by omega), u64_in (x := 16 * d * d) q1 (by omega), u64_in (x := 3 * b) (by omega) (by omega), u64_in (x := 3 * b * b) q3 (by omega), u64_in (x := 16 * d * d + 3 * b * b) (by omega) (by omega), u64_in (x := 12 * d) (by omega) (by omega), u64_in (x := 12 * d * b) (by omega) (by omega), u64_in (x := 16 * d * d + 3 * b * b - 12 * d * b) (by omega) (by omega), u64_in (x := b * b) r2 (by omega),
     rWide (x := d * a) (y := b * b) (z := 1) (by rw [Int.mul_one, two128_eq]; omega), rWide (x := (2 * s - a) * d) (y := 16 * d * d + 3 * b * b - 12 * d * b) (z := 1) (by rw [Int.mul_one, two128_eq]; omega), Int.mul_one, Int.mul_one, rAdd r1 r6 (by omega)]
   ·have e4 : decide (4 * d ≤ b) = false := decide_eq_false h4
    simp only [e1, e2, e4, cond_false, if_neg h1, if_neg h2, if_neg h4]
    have p11 := mulB (show 0 ≤ 2 * d by omega) (show 2 * d ≤ 131070 by omega) (show 0 ≤ a - s by omega) (show a - s ≤ 65535 by omega)
    have p12 := mulB d0 (show d ≤ 65535 by omega) (show 0 ≤ b by omega) b1
    rw [u64_in (x := 2 * d) (by omega) (by omega), u64_in (x := a - s) (by omega) (by omega), u64_in (x := 2 * d * (a - s)) p11.1 (by omega), u64_in (x := 2 * s - a) (by omega) (by omega), u64_in (x := d * b) p12.1 (by omega)]
end
theorem modes {m : Int} (h0 : 1 ≤ m) (h1 : m ≤ 12) : m = 1 ∨ m = 2 ∨ m = 3 ∨ m = 4 ∨ m = 5 ∨ m = 6 ∨ m = 7 ∨ m = 8 ∨ m = 9 ∨ m = 10 ∨ m = 11 ∨ m = 12 := by omega
theorem rIsMode (m : Int) : F_r6_IsMode m = decide (1 ≤ m ∧ m ≤ 12) := by
 rw [F_r6_IsMode_eq, F_r6_ModeName_eq]
 by_cases h0 : m < 1
 ·have : ¬ (1 ≤ m ∧ m ≤ 12) := by omega
  simp [h0, this]
  rfl
 ·by_cases h1 : m ≥ 13
  ·have : ¬ (1 ≤ m ∧ m ≤ 12) := by omega
   simp [h0, h1, this]
   rfl
  ·have : 1 ≤ m ∧ m ≤ 12 := by omega
   rw [decide_eq_true this]
   rcases modes this.1 this.2 with rfl | rfl | rfl | rfl | rfl | rfl | rfl | rfl | rfl | rfl | rfl | rfl <;> rfl
theorem bValid (m : Int) : F_blend_valid m = decide (1 ≤ m ∧ m ≤ 12) := by
 rw [F_blend_valid_eq, bif_dec]
def blendZ (m s a d b : Int) : Int × Int × Int × Int × Int × Bool :=
 if (1 ≤ m ∧ m ≤ 12) ∧ s ≤ a ∧ d ≤ b then ((termZ m s a d b).1, (termZ m s a d b).2.1, (termZ m s a d b).2.2.1, (termZ m s a d b).2.2.2.1, (termZ m s a d b).2.2.2.2, true) else (0, 0, 0, 0, 0, false)
theorem blendZ_pos {m s a d b : Int} (h : (1 ≤ m ∧ m ≤ 12) ∧ s ≤ a ∧ d ≤ b) : blendZ m s a d b = ((termZ m s a d b).1, (termZ m s a d b).2.1, (termZ m s a d b).2.2.1, (termZ m s a d b).2.2.2.1, (termZ m s a d b).2.2.2.2, true) := if_pos h
theorem blendZ_neg {m s a d b : Int} (h : ¬ ((1 ≤ m ∧ m ≤ 12) ∧ s ≤ a ∧ d ≤ b)) : blendZ m s a d b = (0, 0, 0, 0, 0, false) := if_neg h
def Is16 (x : Int) : Prop := 0 ≤ x ∧ x ≤ 65535
section
variable {s a d b : Int} (s1 : Is16 s) (a1 : Is16 a) (d1 : Is16 d) (b1 : Is16 b)
include s1 a1 d1 b1
theorem bExact (m : Int) : F_blend_Exact m s a d b = blendZ m s a d b := by
 rw [F_blend_Exact_eq, bValid]
 by_cases hm : 1 ≤ m ∧ m ≤ 12
 ·by_cases h1 : s ≤ a
  ·by_cases h2 : d ≤ b
   ·have e1 : ¬ s > a := by omega
    have e2 : ¬ d > b := by omega
    rw [blendZ_pos ⟨hm, h1, h2⟩]
    simp only [decide_eq_true hm, decide_eq_false e1, decide_eq_false e2, Bool.not_true, cond_false, bTerm ⟨s1.1, h1, a1.2⟩ ⟨d1.1, h2, b1.2⟩]
   ·have e1 : ¬ s > a := by omega
    have e2 : d > b := by omega
    rw [blendZ_neg (fun h => h2 h.2.2)]
    simp only [decide_eq_true hm, decide_eq_false e1, decide_eq_true e2, Bool.not_true, cond_false, cond_true]
  ·have e1 : s > a := by omega
   rw [blendZ_neg (fun h => h1 h.2.1)]
   simp only [decide_eq_true hm, decide_eq_true e1, Bool.not_true, cond_false, cond_true]
 ·rw [blendZ_neg (fun h => hm h.1)]
  simp only [decide_eq_false hm, Bool.not_false, cond_true]
theorem rBlend (m : Int) : F_r6_Blend m s a d b = blendZ m s a d b := by
 rw [F_r6_Blend_eq, rIsMode]
 by_cases hm : 1 ≤ m ∧ m ≤ 12
 ·by_cases h1 : s ≤ a
  ·by_cases h2 : d ≤ b
   ·have e1 : ¬ s > a := by omega
    have e2 : ¬ d > b := by omega
    have hs : CA s a := ⟨s1.1, h1, a1.2⟩
    have hd : CA d b := ⟨d1.1, h2, b1.2⟩
    have p := CA.prods hs hd
    have q := screen_in hs hd
    have bb := burn_bd hs hd
    have hl := low_wrap hs hd
    have p5 := mulB (show 0 ≤ b by have := b1.1; omega) b1.2 (show 0 ≤ a - s by omega) (show a - s ≤ 65535 by have := a1.2; have := s1.1; omega)
    have p6 := mulB (show 0 ≤ b - d by omega) (show b - d ≤ 65535 by have := b1.2; have := d1.1; omega) a1.1 a1.2
    have p7 := mulB a1.1 a1.2 a1.1 a1.2
    have p8 := mulB p7.1 p7.2 d1.1 d1.2
    rw [blendZ_pos ⟨hm, h1, h2⟩]
    simp only [decide_eq_true hm, decide_eq_false e1, decide_eq_false e2, Bool.not_true, cond_false, F_r6_exact_eq, rSoft hs hd, rHard hs hd, rHard hd hs]
    rw [hl, u64_in (x := s * b) (by omega) (by omega), u64_in (x := d * a) (by omega) (by omega), u64_in (x := s * d) (by omega) (by omega), u64_in (x := s * b + d * a) (by omega) (by omega), u64_in (x := s * b + d * a - s * d) (by omega) (by omega), u64_in (x := s * b + d * a - 2 * s * d) (by omega) (by omega),
     u64_in q.2.2.2.2.2.1 (by omega), u64_in (x := a - s) (by omega) (by have := a1.2; have := s1.1; omega), u64_in (x := b * (a - s)) p5.1 (by omega), u64_in (x := a * b) (by omega) (by omega), u64_in (x := b - d) (by omega) (by have := b1.2; have := d1.1; omega), u64_in (x := (b - d) * a) p6.1 (by omega),
     rWide (x := a) (y := a) (z := d) (by rw [two128_eq]; omega), (hiW0 p8.1 (by omega)).1, (hiW0 p8.1 (by omega)).2]
    simp only [beq_dec, bif_ite]
    have eh : (if 2 * d ≤ b then 2 * d * s else hardZ d b s a) = if 2 * d ≤ b then 2 * s * d else hardZ s a d b := by
     have x1 : 2 * d * s = 2 * s * d := by rw [Int.mul_assoc, Int.mul_comm d s, ← Int.mul_assoc]
     have x2 : hardZ d b s a = hardZ s a d b := by
      unfold hardZ
      rw [Int.mul_comm b a, Int.mul_assoc 2 (a - s), Int.mul_comm (a - s), ← Int.mul_assoc]
     rw [x1, x2]
    rw [eh]
    have eb : ¬ d = b → ¬ s * b ≤ (b - d) * a → F_r1_Sub (F_r6_wide a b s).1 (F_r6_wide a b s).2 (F_r6_wide (b - d) a a).1 (F_r6_wide (b - d) a a).2 = (0, a * b * s - (b - d) * a * a, true) := by
     intro _ h
     obtain ⟨q1, q2, q3, q4, q5⟩ := bb (by omega)
     rw [rWide (x := a) (y := b) (z := s) (by rw [two128_eq]; omega), rWide (x := b - d) (y := a) (z := a) (by rw [two128_eq]; omega)]
     exact rSub q5 q4 (by omega)
    rcases modes hm.1 hm.2 with rfl | rfl | rfl | rfl | rfl | rfl | rfl | rfl | rfl | rfl | rfl | rfl
    case inr.inr.inr.inr.inr.inr.inr.inl =>
     simp only [termZ, burnZ, fracZ]
     by_cases k1 : d = b
     ·simp [k1]
     ·by_cases k2 : s * b ≤ (b - d) * a
      ·simp [k1, k2]
      ·rw [eb k1 k2]
       simp [k1, k2]
    case inr.inr.inr.inr.inr.inr.inl =>
     simp only [termZ, dodgeZ, fracZ]
     by_cases k1 : d = 0
     ·simp [k1]
     ·by_cases k2 : b * (a - s) ≤ d * a
      ·simp [k1, k2]
      ·simp [k1, k2]
    all_goals simp [termZ, fracZ]
   ·have e1 : ¬ s > a := by omega
    have e2 : d > b := by omega
    rw [blendZ_neg (fun h => h2 h.2.2)]
    simp only [decide_eq_true hm, decide_eq_false e1, decide_eq_true e2, Bool.not_true, cond_false, cond_true]
  ·have e1 : s > a := by omega
   rw [blendZ_neg (fun h => h1 h.2.1)]
   simp only [decide_eq_true hm, decide_eq_true e1, Bool.not_true, cond_false, cond_true]
 ·rw [blendZ_neg (fun h => hm h.1)]
  simp only [decide_eq_false hm, Bool.not_false, cond_true]
end
end Go.Proofs.YtdioaiepkhepaaaGreatDoor
