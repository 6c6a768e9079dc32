/- The statements of chapter 10 that reach no laid variable, as plain laws. -/
import Derived.Test.YtfjhhadmncjdiaaGreatDoorMath10
namespace Go.Proofs.YtfjhhadmncjdiaaGreatDoor
open Go.RowKit

theorem gSampleM (x : Int) {m : Int} (h0 : 0 ≤ m) (h1 : m ≤ 65535) : 0 ≤ F_gen_Sample x m ∧ F_gen_Sample x m ≤ m := gSample_le x ⟨h0, h1⟩
theorem mMax (x : Int) : (F_gen_Max x = 255 ∨ F_gen_Max x = 65535) ∧ 0 ≤ F_gen_Max x ∧ F_gen_Max x ≤ 65535 := by
  have := gMax_or x
  exact ⟨this, by omega, by omega⟩


/-! KnockoutReplaces -/
theorem kFull (k m s a c c' d b : Int) : kHalf k m s a m c d b = kHalf k m s a m c' d b := by
  unfold kHalf
  rw [Int.sub_self, Int.zero_mul, Int.zero_mul]
theorem kNone {k m c d b : Int} (hk : 1 ≤ k ∧ k ≤ 12) (hd : CA d b) (hm : 1 ≤ m) : kHalf k m 0 0 0 c d b = c := by
  obtain ⟨den, ht, h1, -⟩ := term_s0 hk.1 hk.2 hd
  unfold kHalf rootT
  rw [ht]
  simp only
  rw [show (4 * ((0 : Int) * 0 * 0)) = 0 by decide, isq_0]
  have e : ((m - 0) * c + (0 - 0) * d + (m - b) * 0) * den + 0 = c * (m * den) := by grind
  rw [e]
  exact hv_exact (by have : 1 * 1 ≤ m * den := Int.mul_le_mul hm h1 (by decide) (by omega); omega)
theorem aFull (m a c c' b : Int) : kAlpha m a m c b = kAlpha m a m c' b := by
  unfold kAlpha
  rw [Int.sub_self, Int.zero_mul, Int.zero_mul]
theorem aNone {m c b : Int} (hm : 1 ≤ m) : kAlpha m 0 0 c b = c := by
  unfold kAlpha
  have e : (m - 0) * c + (0 - 0) * b + m * 0 = c * m := by grind
  rw [e]
  exact hv_exact hm
end Go.Proofs.YtfjhhadmncjdiaaGreatDoor
