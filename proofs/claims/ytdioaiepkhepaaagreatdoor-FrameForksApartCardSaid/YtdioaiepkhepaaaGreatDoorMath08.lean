/- Rounding: monotone, and the same at numbers multiplied alike. The exact composite as whole numbers. -/
import Derived.Test.YtdioaiepkhepaaaGreatDoorAid06
namespace Go.Proofs.YtdioaiepkhepaaaGreatDoor
open Go.RowKit
theorem le_hv {P T d n : Int} (hd : 1 ≤ d) : n ≤ hv P T d ↔ 2 * (n * d) ≤ 2 * P + T + d := by
 unfold hv
 rw [Int.le_ediv_iff_mul_le (by omega)]
 have : n * (2 * d) = 2 * (n * d) := by grind
 omega
theorem le_isq {S Y : Int} (hS : 0 ≤ S) : Y ≤ isq S ↔ Y ≤ 0 ∨ Y * Y ≤ S := by
 have h0 := isq_nn hS
 rcases Int.lt_or_le 0 Y with h | h
 ·rw [← sq_isq hS (by omega)]
  constructor
  ·exact Or.inr
  ·rintro (k | k)
   ·omega
   ·exact k
 ·exact ⟨fun _ => Or.inl h, fun _ => by omega⟩
theorem hv_scale {P S d k : Int} (hS : 0 ≤ S) (hd : 1 ≤ d) (hk : 1 ≤ k) : hv (P * k) (isq (4 * (k * k * S))) (d * k) = hv P (isq (4 * S)) d := by
 have dk : 1 * 1 ≤ d * k := Int.mul_le_mul hd hk (by decide) (by omega)
 have kk : 1 * 1 ≤ k * k := Int.mul_le_mul hk hk (by decide) (by omega)
 have S2 : 0 ≤ k * k * S := Int.mul_nonneg (by omega) hS
 refine le_iff_eq fun n => ?_
 rw [le_hv (by omega), le_hv hd]
 have a := le_isq (S := 4 * S) (Y := 2 * (n * d) - 2 * P - d) (by omega)
 have b := le_isq (S := 4 * (k * k * S)) (Y := 2 * (n * (d * k)) - 2 * (P * k) - d * k) (by omega)
 have e1 : 2 * (n * (d * k)) - 2 * (P * k) - d * k = (2 * (n * d) - 2 * P - d) * k := by grind
 rw [e1] at b
 generalize hY : 2 * (n * d) - 2 * P - d = Y at *
 have c1 : Y * k ≤ 0 ↔ Y ≤ 0 := by
  constructor
  ·intro h
   rcases Int.lt_or_le 0 Y with h1 | h1
   ·have := Int.mul_pos h1 (show 0 < k by omega); omega
   ·exact h1
  ·intro h
   have := Int.mul_nonneg (show 0 ≤ -Y by omega) (show 0 ≤ k by omega)
   have e : -Y * k = -(Y * k) := Int.neg_mul _ _
   omega
 have c2 : Y * k * (Y * k) ≤ 4 * (k * k * S) ↔ Y * Y ≤ 4 * S := by
  have e2 : Y * k * (Y * k) = k * k * (Y * Y) := by grind
  have e3 : 4 * (k * k * S) = k * k * (4 * S) := by grind
  rw [e2, e3]
  exact ⟨fun h => Int.le_of_mul_le_mul_left h (by omega), fun h => Int.mul_le_mul_of_nonneg_left h (by omega)⟩
 rw [c1, c2] at b
 constructor
 ·intro h
  have := a.2 (b.1 (by omega))
  omega
 ·intro h
  have := b.2 (a.1 (by omega))
  omega
theorem hv_mono {P T d N d' : Int} (hd : 1 ≤ d) (hd' : 1 ≤ d') (h : (2 * P + T) * d' ≤ 2 * (N * d)) : hv P T d ≤ hv N 0 d' := by
 rw [le_hv hd']
 have h1 := (hv_spec (P := P) (T := T) hd).1
 generalize hv P T d = n at *
 have h2 : 2 * d * n * d' ≤ (2 * P + T + d) * d' := Int.mul_le_mul_of_nonneg_right h1 (by omega)
 have e1 : 2 * d * n * d' = d * (2 * (n * d')) := by grind
 have e2 : (2 * P + T + d) * d' = (2 * P + T) * d' + d * d' := by grind
 have e3 : d * (2 * N + 0 + d') = 2 * (N * d) + d * d' := by grind
 exact Int.le_of_mul_le_mul_left (show d * (2 * (n * d')) ≤ d * (2 * N + 0 + d') by omega) (by omega)
theorem rHalf {n d : Int} (hn : 0 ≤ n) (hn2 : n < 9223372036854775808) (hd : 1 ≤ d) (hd2 : d < 9223372036854775808) : F_r1_Half n d = hv n 0 d := by
 have h1 := Int.mul_ediv_add_emod n d
 have r1 := Int.emod_nonneg n (b := d) (by omega)
 have r2 := Int.emod_lt_of_pos n (b := d) (by omega)
 have q1 : 0 ≤ n / d := Int.ediv_nonneg hn (by omega)
 have q2 : n / d ≤ n := Int.ediv_le_self _ hn
 rw [F_r1_Half_eq]
 have hdz : (d == 0) = false := by simp; omega
 simp only [hdz, cond_false]
 rw [Int.tmod_eq_emod_of_nonneg hn, Int.tdiv_eq_ediv_of_nonneg hn, u64_in (x := d - n % d) (by omega) (by omega), u64_in (x := n / d) q1 (by omega), u64_in (x := n / d + 1) (by omega) (by omega)]
 generalize n / d = q at *
 generalize n % d = r at *
 by_cases h : r ≥ d - r
 ·simp only [decide_eq_true h, cond_true]
  have e : 2 * d * (q + 1) = 2 * (d * q) + 2 * d := by grind
  exact (hv_uq (by omega) (by omega)).symm
 ·simp only [decide_eq_false h, cond_false]
  have e : 2 * d * q = 2 * (d * q) := by grind
  exact (hv_uq (by omega) (by omega)).symm
end Go.Proofs.YtdioaiepkhepaaaGreatDoor
