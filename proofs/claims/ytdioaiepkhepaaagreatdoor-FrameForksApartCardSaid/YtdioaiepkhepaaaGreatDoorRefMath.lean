/- Plain arithmetic of ref01: multiplication by doubling, division bit by bit. No program. -/
import Derived.Laws.Bits64b
import Derived.Laws.BitsAllLaws
import Derived.Test.YtdioaiepkhepaaaGreatDoorNumMath
import Derived.Test.YtdioaiepkhepaaaGreatDoorGround
namespace Go.Proofs.YtdioaiepkhepaaaGreatDoor
open Go.RowKit
theorem and_one (k : Int) (h0 : 0 ≤ k) (h1 : k < 18446744073709551616) : bits .and .u64 k 1 = k % 2 := by
 obtain ⟨k, rfl⟩ := Int.eq_ofNat_of_zero_le h0
 have h := bits_and_u64_nat k 1 (by omega) (by omega)
 have e : k &&& 1 = k % 2 := Nat.and_two_pow_sub_one_eq_mod k 1
 rw [e] at h
 exact h.trans (by omega)
theorem and_one_t {k : Int} (h0 : 0 ≤ k) (h1 : k < 18446744073709551616) (h : k % 2 = 1) : (bits .and .u64 k 1 == 1) = true := by rw [and_one k h0 h1, h]; rfl
theorem and_one_f {k : Int} (h0 : 0 ≤ k) (h1 : k < 18446744073709551616) (h : k % 2 = 0) : (bits .and .u64 k 1 == 1) = false := by rw [and_one k h0 h1, h]; rfl
end Go.Proofs.YtdioaiepkhepaaaGreatDoor
