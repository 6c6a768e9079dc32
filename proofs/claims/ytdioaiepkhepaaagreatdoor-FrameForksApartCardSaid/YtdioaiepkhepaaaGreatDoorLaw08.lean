/- The statements of chapter 08, and those of chapter 10 that reach the operators, as plain laws. -/
import Derived.Test.YtdioaiepkhepaaaGreatDoorMix
import Derived.Test.YtdioaiepkhepaaaGreatDoorLaw10
namespace Go.Proofs.YtdioaiepkhepaaaGreatDoor
open Go.RowKit
theorem mixH_frac {o k m s a d b p den : Int} (ht : termZ k s a d b = fracZ p den) : mixH o k m s a d b = hv (((m - b) * s * den + p) * (facZ o a b m).1 + d * m * den * (facZ o a b m).2) 0 (m * m * den) := by
 unfold mixH mixN mixQ mixD
 rw [ht]
 simp only [fracZ]
 rw [show 4 * ((facZ o a b m).1 * 0 * ((facZ o a b m).1 * 0) * 0) = 0 by simp, isq_0]
section
variable {o k m s a d b : Int} (hm : m = 255 ∨ m = 65535) (hs : 0 ≤ s ∧ s ≤ a ∧ a ≤ m) (hd : 0 ≤ d ∧ d ≤ b ∧ b ≤ m) (ho : 1 ≤ o ∧ o ≤ 12) (hk : 1 ≤ k ∧ k ≤ 12)
include hm hs hd ho hk
end
theorem hv_add {P T d n : Int} (hd : 1 ≤ d) : hv (P + n * d) T d = hv P T d + n := by
 have h := hv_spec (P := P) (T := T) hd
 have e1 : 2 * d * (hv P T d + n) = 2 * d * hv P T d + 2 * (n * d) := by grind
 exact hv_uq (by omega) (by omega)
theorem hv_scale0 {P d k : Int} (hd : 1 ≤ d) (hk : 1 ≤ k) : hv (P * k) 0 (d * k) = hv P 0 d := by
 have h := hv_scale (P := P) (S := 0) (Int.le_refl 0) hd hk
 rw [show 4 * (k * k * 0) = 0 by simp, show (4 * 0 : Int) = 0 by decide, isq_0] at h
 exact h
section
variable {k m s d : Int} (hm : m = 255 ∨ m = 65535) (hs : 0 ≤ s ∧ s ≤ m) (hd : 0 ≤ d ∧ d ≤ m) (hk : 1 ≤ k ∧ k ≤ 12)
include hm hs hd hk
end
section
variable {k m s a f c d b : Int} (hm : m = 255 ∨ m = 65535) (hs : 0 ≤ s ∧ s ≤ a ∧ a ≤ f ∧ f ≤ m) (hd : 0 ≤ d ∧ d ≤ b ∧ b ≤ m) (hc : 0 ≤ c ∧ c ≤ m)
include hm hs hd hc
end
section
variable {m a f c b : Int} (hm : m = 255 ∨ m = 65535) (hs : 0 ≤ a ∧ a ≤ f ∧ f ≤ m) (hb : 0 ≤ b ∧ b ≤ m) (hc : 0 ≤ c ∧ c ≤ m)
include hm hs hb hc
end
end Go.Proofs.YtdioaiepkhepaaaGreatDoor
