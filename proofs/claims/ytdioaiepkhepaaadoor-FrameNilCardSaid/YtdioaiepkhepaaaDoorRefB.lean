/- Walk: ref01.MulSmall (by doubling). Every number and factor. -/
import Derived.Test.YtdioaiepkhepaaaDoorRefA
import Derived.Test.YtdioaiepkhepaaaDoorRefMath
namespace Go.Proofs.YtdioaiepkhepaaaDoor
set_option maxRecDepth 100000
open Go.RowKit

/-- The product, or false where it does not fit. -/
def RetMS (X : Int) (w : World) (e : Ending) (w' : World) : Prop :=
  (X < 340282366920938463463374607431768211456 ∧ RetUB X true w e w') ∨ (340282366920938463463374607431768211456 ≤ X ∧ RetUB 0 false w e w')

theorem ms_odd {o a k X : Int} (h : o + a * k = X) (hk : k % 2 = 1) : o + a + a * 2 * (k / 2) = X := by
  have e : k = 1 + 2 * (k / 2) := by omega
  rw [← h, Int.mul_assoc]
  conv => rhs; rw [e, Int.mul_add, Int.mul_one]
  omega
theorem ms_even {o a k X : Int} (h : o + a * k = X) (hk : k % 2 = 0) : o + a * 2 * (k / 2) = X := by
  have e : k = 2 * (k / 2) := by omega
  rw [← h, Int.mul_assoc, ← e]
theorem ms_le {o a k X : Int} (h : o + a * k = X) (ha : 0 ≤ a) (hk : 1 ≤ k) : o + a ≤ X := by
  have : a * 1 ≤ a * k := Int.mul_le_mul_of_nonneg_left hk ha
  omega
theorem ms_le2 {o a k X : Int} (h : o + a * 2 * k = X) (ho : 0 ≤ o) (ha : 0 ≤ a) (hk : 1 ≤ k) : a + a ≤ X := by
  have : a * 2 * 1 ≤ a * 2 * k := Int.mul_le_mul_of_nonneg_left hk (by omega)
  omega

end Go.Proofs.YtdioaiepkhepaaaDoor
