/- What the operators do; errors of roundings. No condition. -/
import Derived.Test.YtdioaiepkhepaaaGreatDoorMath08
import Derived.Test.YtdioaiepkhepaaaGreatDoorLaw08
namespace Go.Proofs.YtdioaiepkhepaaaGreatDoor
open Go.RowKit
def ov (x w y m : Int) : Int := x + hv ((m - w) * y) 0 m
theorem hv_m {m x : Int} (hm : 1 ≤ m) : hv (m * x) 0 m = x := by rw [Int.mul_comm, hv_exact hm]
theorem hv_mono0 {P Q d : Int} (hd : 1 ≤ d) (h : P ≤ Q) : hv P 0 d ≤ hv Q 0 d := by
 refine hv_mono hd hd ?_
 have : (2 * P + 0) * d ≤ 2 * Q * d := Int.mul_le_mul_of_nonneg_right (by omega) (by omega)
 have e : 2 * Q * d = 2 * (Q * d) := Int.mul_assoc _ _ _
 omega
end Go.Proofs.YtdioaiepkhepaaaGreatDoor
namespace Go.Proofs.YtdioaiepkhepaaaGreatDoor
open Go.RowKit
theorem hv_leN {P n m : Int} (hm : 1 ≤ m) (h : P ≤ n * m) : hv P 0 m ≤ n := hv_le hm (by
 have : 2 * n * m = 2 * (n * m) := Int.mul_assoc _ _ _
 omega)
section
variable {o a b f g m : Int} (hm : 1 ≤ m) (ha : 0 ≤ a) (haf : a ≤ f) (hf : f ≤ m) (hb : 0 ≤ b) (hbg : b ≤ g) (hg : g ≤ m)
include hm ha haf hf hb hbg hg
end
def neutralO (o : Int) : Prop := o = 3 ∨ o = 4 ∨ o = 5 ∨ o = 9 ∨ o = 10 ∨ o = 12
def freshO (o : Int) : Prop := o = 2 ∨ o = 4 ∨ o = 5 ∨ o = 8 ∨ o = 11 ∨ o = 12
instance (o : Int) : Decidable (neutralO o) := by unfold neutralO; infer_instance
instance (o : Int) : Decidable (freshO o) := by unfold freshO; infer_instance
theorem fa_fresh {o a m : Int} (h : freshO o) : (facZ o a 0 m).1 = m := by
 rcases h with rfl | rfl | rfl | rfl | rfl | rfl <;> simp [facZ]
theorem fresh_a {o a m : Int} (hm : 1 ≤ m) (h : freshO o) : alphaZ o a 0 m = a := by
 unfold alphaZ
 rw [fa_fresh h, Int.mul_zero, Int.add_zero, hv_m hm]
theorem fresh_f {o f m : Int} (hm : 1 ≤ m) (h : freshO o) : shapeZ o f 0 m = f := by
 rcases h with rfl | rfl | rfl | rfl | rfl | rfl <;> simp [shapeZ, hv_m hm]
theorem over_c {m s a d b : Int} (hm : 1 ≤ m) : mixH 4 1 m s a d b = ov s a d m := by
 have hf : facZ 4 a b m = (m, m - a) := rfl
 rw [mixH_frac (p := s * b) (den := 1) rfl, hf]
 have e1 : ((m - b) * s * 1 + s * b) * m + d * m * 1 * (m - a) = ((m - a) * d + s * m) * m := by grind
 simp only
 rw [e1, Int.mul_one, hv_scale0 hm hm, hv_add hm]
 unfold ov
 omega
end Go.Proofs.YtdioaiepkhepaaaGreatDoor
