/- Whole numbers: roots, divisions. No condition. -/
import Derived.Laws.Bits64b
import Derived.Laws.BitsAllLaws
import Derived.IntWalk
import Derived.Lib.Hide
import Derived.Lib.ItoaNum
import Derived.Lib.BitFns
namespace Go.Proofs.YtdioaiepkhepaaaGreatDoor
def SqInv (A x b : Int) : Prop :=
 0 ≤ x ∧ x * x ≤ A ∧ ((∃ j : Nat, j ≤ 63 ∧ b = 2 ^ j ∧ x % (2 * b) = 0 ∧ x + 2 * b ≤ 18446744073709551616 ∧ A < (x + 2 * b) * (x + 2 * b)) ∨ (b = 0 ∧ A < (x + 1) * (x + 1)))
theorem sq_start {A : Int} (h0 : 0 ≤ A) (h1 : A < 340282366920938463463374607431768211456) : SqInv A 0 9223372036854775808 :=
 ⟨by decide, by omega, Or.inl ⟨63, by decide, by decide, by decide, by decide, by omega⟩⟩
theorem sq_word {A x b : Int} (h : SqInv A x b) (h1 : A < 340282366920938463463374607431768211456) : x < 18446744073709551616 := by
 obtain ⟨x0, hx, -⟩ := h
 refine Int.not_le.1 (fun hl => ?_)
 have : 18446744073709551616 * 18446744073709551616 ≤ x * x := Int.mul_le_mul hl hl (by decide) x0
 omega
theorem or_bit (x : Int) (j : Nat) (h0 : 0 ≤ x) (hx : x < 18446744073709551616) (hj : j ≤ 63) (hm : x % (2 * 2 ^ j) = 0) : bits .or .u64 x (2 ^ j) = x + 2 ^ j := by
 obtain ⟨x, rfl⟩ := Int.eq_ofNat_of_zero_le h0
 have e : ((2 : Int) ^ j) = ((2 ^ j : Nat) : Int) := by simp
 have hp : (2:Nat) ^ j ≤ 2 ^ 63 := Nat.pow_le_pow_right (by decide) hj
 rw [e, bits_or_u64_nat x (2 ^ j) (by omega) (by omega)]
 rw [e] at hm
 have hm2 : ((x % (2 * 2 ^ j) : Nat) : Int) = 0 := by rw [Int.natCast_emod, Int.natCast_mul]; exact hm
 have hm' : x % (2 ^ (j + 1)) = 0 := by rw [Nat.pow_succ, Nat.mul_comm]; exact Int.ofNat_eq_zero.1 hm2
 have d : x = 2 ^ (j + 1) * (x / 2 ^ (j + 1)) := by
  have := Nat.div_add_mod x (2 ^ (j + 1)); omega
 have : x ||| 2 ^ j = x + 2 ^ j := by
  rw [d]
  exact (Nat.two_pow_add_eq_or_of_lt (Nat.pow_lt_pow_of_lt (by decide) (by omega)) _).symm
 rw [this]; omega
theorem sq_round {A x b : Int} (h : SqInv A x b) (hb : b ≠ 0) (h1 : A < 340282366920938463463374607431768211456) :
 1 ≤ b ∧ b ≤ 9223372036854775808 ∧ bits .or .u64 x b = x + b ∧ 0 ≤ x + b ∧ x + b < 18446744073709551616 ∧ ((x + b) * (x + b) ≤ A → SqInv A (x + b) (b / 2)) ∧ (A < (x + b) * (x + b) → SqInv A x (b / 2)) := by
 have hw := sq_word h h1
 obtain ⟨x0, hx, ⟨j, hj, rfl, hm, hs, hA⟩ | ⟨h0, -⟩⟩ := h
 case inr => exact absurd h0 hb
 have hp : (1 : Int) ≤ 2 ^ j := Int.pow_pos (by decide)
 have hp2 : (2 : Int) ^ j ≤ 9223372036854775808 := by
  have e : ((2 : Int) ^ j) = ((2 ^ j : Nat) : Int) := by simp
  have : (2:Nat) ^ j ≤ 2 ^ 63 := Nat.pow_le_pow_right (by decide) hj
  rw [e]; omega
 refine ⟨hp, hp2, or_bit x j x0 hw hj hm, by omega, by omega, fun hle => ⟨by omega, hle, ?_⟩, fun hlt => ⟨x0, hx, ?_⟩⟩
 ·rcases Nat.eq_zero_or_pos j with rfl | hjp
  ·refine Or.inr ⟨by decide, ?_⟩
   simpa [Int.add_assoc] using hA
  ·obtain ⟨i, rfl⟩ : ∃ i, j = i + 1 := ⟨j - 1, by omega⟩
   have e : (2 : Int) ^ (i + 1) = 2 * 2 ^ i := by rw [Int.pow_succ, Int.mul_comm]
   have e2 : (2 : Int) ^ (i + 1) / 2 = 2 ^ i := by rw [e]; omega
   rw [e2]
   refine Or.inl ⟨i, by omega, rfl, ?_, by omega, ?_⟩
   ·rw [e] at hm ⊢
    generalize (2 : Int) ^ i = c at *
    have d := Int.emod_add_mul_ediv x (2 * (2 * c))
    rw [hm] at d
    rw [← d, Int.zero_add, show 2 * (2 * c) * (x / (2 * (2 * c))) + 2 * c = 2 * c * (2 * (x / (2 * (2 * c))) + 1) by
     rw [Int.mul_add, Int.mul_one, ← Int.mul_assoc (2 * c), Int.mul_comm (2 * c) 2]]
    exact Int.mul_emod_right _ _
   ·rw [e] at hA ⊢
    have e3 : x + 2 * 2 ^ i + 2 * 2 ^ i = x + 2 * (2 * 2 ^ i) := by omega
    rw [e3]; exact hA
 ·rcases Nat.eq_zero_or_pos j with rfl | hjp
  ·exact Or.inr ⟨by decide, by simpa using hlt⟩
  ·obtain ⟨i, rfl⟩ : ∃ i, j = i + 1 := ⟨j - 1, by omega⟩
   have e : (2 : Int) ^ (i + 1) = 2 * 2 ^ i := by rw [Int.pow_succ, Int.mul_comm]
   have e2 : (2 : Int) ^ (i + 1) / 2 = 2 ^ i := by rw [e]; omega
   rw [e2]
   refine Or.inl ⟨i, by omega, rfl, ?_, by omega, ?_⟩
   ·rw [e] at hm
    generalize (2 : Int) ^ i = c at *
    have d := Int.emod_add_mul_ediv x (2 * (2 * c))
    rw [hm] at d
    rw [← d, Int.zero_add, Int.mul_assoc 2 (2 * c), Int.mul_left_comm 2 (2 * c)]
    exact Int.mul_emod_right _ _
   ·rw [e] at hlt; exact hlt
theorem sq_end {A x : Int} (h : SqInv A x 0) : 0 ≤ x ∧ x * x ≤ A ∧ A < (x + 1) * (x + 1) := by
 obtain ⟨x0, hx, ⟨j, hj, hb, -⟩ | ⟨-, hA⟩⟩ := h
 ·have : (0 : Int) < 2 ^ j := Int.pow_pos (by decide)
  omega
 ·exact ⟨x0, hx, hA⟩
end Go.Proofs.YtdioaiepkhepaaaGreatDoor
namespace Go.Proofs.YtdioaiepkhepaaaGreatDoor
open Go.RowKit
def DInv (Y yn1 yn0 u un q r : Int) : Prop :=
 Y = yn1 * 4294967296 + yn0 ∧ 2147483648 ≤ yn1 ∧ yn1 < 4294967296 ∧ 0 ≤ yn0 ∧ yn0 < 4294967296 ∧ 0 ≤ u ∧ u < Y ∧ 0 ≤ un ∧ un < 4294967296 ∧
 0 ≤ q ∧ q ≤ 4294967297 ∧ 0 ≤ r ∧ r = u - q * yn1 ∧ u * 4294967296 + un < (q + 1) * Y
def DFin (Y u un q : Int) : Prop := 0 ≤ q ∧ q < 4294967296 ∧ 0 ≤ u * 4294967296 + un - q * Y ∧ u * 4294967296 + un - q * Y < Y
theorem dinit {Y yn1 yn0 u un : Int} (hY : Y = yn1 * 4294967296 + yn0) (h1 : 2147483648 ≤ yn1) (h2 : yn1 < 4294967296) (h3 : 0 ≤ yn0) (h4 : yn0 < 4294967296) (h5 : 0 ≤ u) (h6 : u < Y) (h7 : 0 ≤ un) (h8 : un < 4294967296) :
 DInv Y yn1 yn0 u un (u / yn1) (u - u / yn1 * yn1) := by
 have e := Int.emod_add_mul_ediv u yn1
 have b0 := Int.emod_nonneg u (show yn1 ≠ 0 by omega)
 have b1 := Int.emod_lt_of_pos u (show 0 < yn1 by omega)
 rw [Int.mul_comm] at e
 have q0 : 0 ≤ u / yn1 := Int.ediv_nonneg h5 (by omega)
 generalize u / yn1 = q at *
 generalize u % yn1 = t at *
 have q1 : q ≤ 4294967297 := by
  refine Int.not_lt.1 (fun hlt => ?_)
  have : 4294967298 * yn1 ≤ q * yn1 := Int.mul_le_mul_of_nonneg_right (by omega) (by omega)
  omega
 have e2 : (q + 1) * Y = (q * yn1 + yn1) * 4294967296 + (q + 1) * yn0 := by
  rw [hY, Int.mul_add, ← Int.mul_assoc, Int.add_mul q 1 yn1, Int.one_mul]
 have e3 : 0 ≤ (q + 1) * yn0 := Int.mul_nonneg (by omega) h3
 exact ⟨hY, h1, h2, h3, h4, h5, h6, h7, h8, q0, q1, by omega, rfl, by omega⟩
theorem dmulY {Y yn1 yn0 q : Int} (hY : Y = yn1 * 4294967296 + yn0) : q * Y = q * yn1 * 4294967296 + q * yn0 := by
 rw [hY, Int.mul_add, ← Int.mul_assoc]
theorem dbound {Y yn1 yn0 u un q r : Int} (h : DInv Y yn1 yn0 u un q r) (hq : q < 4294967296) : 0 ≤ q * yn0 ∧ q * yn0 ≤ 18446744065119617025 := by
 obtain ⟨hY, h1, h2, h3, h4, h5, h6, h7, h8, q0, q1, r0, hr, hN⟩ := h
 refine ⟨Int.mul_nonneg q0 h3, ?_⟩
 have a := Int.mul_le_mul_of_nonneg_right (show q ≤ 4294967295 by omega) h3
 omega
theorem dstep {Y yn1 yn0 u un q r : Int} (h : DInv Y yn1 yn0 u un q r) (ht : 4294967296 ≤ q ∨ 4294967296 * r + un < q * yn0) :
 1 ≤ q ∧ DInv Y yn1 yn0 u un (q - 1) (r + yn1) := by
 obtain ⟨hY, h1, h2, h3, h4, h5, h6, h7, h8, q0, q1, r0, hr, hN⟩ := h
 have e := dmulY (q := q) hY
 have hlt : u * 4294967296 + un < q * Y := by
  rcases ht with ht | ht
  ·have a : 4294967296 * Y ≤ q * Y := Int.mul_le_mul_of_nonneg_right ht (by omega)
   omega
  ·omega
 have hq : 1 ≤ q := by
  refine Int.not_lt.1 (fun hl => ?_)
  obtain rfl : q = 0 := by omega
  omega
 have e3 : (q - 1) * yn1 = q * yn1 - yn1 := by rw [Int.sub_mul, Int.one_mul]
 refine ⟨hq, hY, h1, h2, h3, h4, h5, h6, h7, h8, by omega, by omega, by omega, by omega, ?_⟩
 rw [show q - 1 + 1 = q by omega]
 exact hlt
theorem dfin_of {Y yn1 yn0 u un q r : Int} (h : DInv Y yn1 yn0 u un q r) (hle : q * Y ≤ u * 4294967296 + un) : DFin Y u un q := by
 obtain ⟨hY, h1, h2, h3, h4, h5, h6, h7, h8, q0, q1, r0, hr, hN⟩ := h
 have e2 : (q + 1) * Y = q * Y + Y := by rw [Int.add_mul, Int.one_mul]
 refine ⟨q0, Int.not_le.1 (fun hl => ?_), by omega, by omega⟩
 have a : 4294967296 * Y ≤ q * Y := Int.mul_le_mul_of_nonneg_right hl (by omega)
 omega
theorem dexit {Y yn1 yn0 u un q r : Int} (h : DInv Y yn1 yn0 u un q r) (ht : q * yn0 ≤ 4294967296 * r + un) : DFin Y u un q := by
 have h' := h
 obtain ⟨hY, h1, h2, h3, h4, h5, h6, h7, h8, q0, q1, r0, hr, hN⟩ := h
 have e := dmulY (q := q) hY
 exact dfin_of h' (by omega)
theorem dbreak {Y yn1 yn0 u un q r : Int} (h : DInv Y yn1 yn0 u un q r) (hq : q ≤ 4294967296) (ht : 4294967296 ≤ r) : DFin Y u un q := by
 have h' := h
 obtain ⟨hY, h1, h2, h3, h4, h5, h6, h7, h8, q0, q1, r0, hr, hN⟩ := h
 have e := dmulY (q := q) hY
 have a := Int.mul_le_mul_of_nonneg_right hq h3
 exact dfin_of h' (by omega)
theorem dwrap {a b c R : Int} (h : a * 4294967296 + b - c = R) (h0 : 0 ≤ R) (h1 : R < 18446744073709551616) :
 IntKind.u64.wrap (IntKind.u64.wrap (IntKind.u64.wrap (a * 4294967296) + b) - IntKind.u64.wrap c) = R := by
 simp only [IntKind.wrap_u64]
 omega
theorem mask32 (a : Int) (h0 : 0 ≤ a) (h1 : a < 18446744073709551616) : bits .and .u64 a 4294967295 = a % 4294967296 := by
 obtain ⟨a, rfl⟩ := Int.eq_ofNat_of_zero_le h0
 have h := bits_and_u64_nat a 4294967295 (by omega) (by omega)
 have e : a &&& 4294967295 = a % 4294967296 := Nat.and_two_pow_sub_one_eq_mod a 32
 rw [e] at h
 exact h.trans (by omega)
theorem shl_join (h l : Int) (s : Nat) (hs : s ≤ 63) (h0 : 0 ≤ h) (hh : h * 2 ^ s < 18446744073709551616) (l0 : 0 ≤ l) (l1 : l < 18446744073709551616) :
 ∃ a b : Int, bits .or .u64 (IntKind.u64.wrap (h * 2 ^ s)) (l / 2 ^ (64 - s)) = a ∧ IntKind.u64.wrap (l * 2 ^ s) = b ∧ 0 ≤ a ∧ a < 18446744073709551616 ∧ 0 ≤ b ∧ b < 18446744073709551616 ∧ a * 18446744073709551616 + b = (h * 18446744073709551616 + l) * 2 ^ s := by
 obtain ⟨h, rfl⟩ := Int.eq_ofNat_of_zero_le h0
 obtain ⟨l, rfl⟩ := Int.eq_ofNat_of_zero_le l0
 have e1 : ((h : Int) * 2 ^ s) = ((h * 2 ^ s : Nat) : Int) := by simp
 have e2 : ((l : Int) / 2 ^ (64 - s)) = ((l / 2 ^ (64 - s) : Nat) : Int) := by simp
 have e3 : ((l : Int) * 2 ^ s) = ((l * 2 ^ s : Nat) : Int) := by simp
 have p : (2:Nat) ^ (64 - s) * 2 ^ s = 18446744073709551616 := by rw [← Nat.pow_add, show 64 - s + s = 64 by omega]
 rw [e1] at hh
 have d := Nat.div_add_mod l (2 ^ (64 - s))
 have d1 := Nat.mod_lt l (Nat.two_pow_pos (64 - s))
 have d2 : l / 2 ^ (64 - s) < 2 ^ s := by
  rw [Nat.div_lt_iff_lt_mul (Nat.two_pow_pos _), Nat.mul_comm, p]; omega
 have or1 : h * 2 ^ s ||| l / 2 ^ (64 - s) = h * 2 ^ s + l / 2 ^ (64 - s) := by
  rw [Nat.mul_comm]
  exact (Nat.two_pow_add_eq_or_of_lt d2 h).symm
 have eB : l * 2 ^ s = l / 2 ^ (64 - s) * 18446744073709551616 + l % 2 ^ (64 - s) * 2 ^ s := by
  rw [← p, ← Nat.mul_assoc, ← Nat.add_mul, Nat.mul_comm (l / 2 ^ (64 - s)), d]
 have d3 : l % 2 ^ (64 - s) * 2 ^ s < 18446744073709551616 := by rw [← p]; exact Nat.mul_lt_mul_of_pos_right d1 (Nat.two_pow_pos _)
 have hle : h * 2 ^ s + l / 2 ^ (64 - s) < 18446744073709551616 := by
  have p2 : (2:Nat) ^ s * 2 ^ (64 - s) = 18446744073709551616 := by rw [Nat.mul_comm]; exact p
  have : h * 2 ^ s < 2 ^ s * 2 ^ (64 - s) := by rw [p2]; omega
  have : h < 2 ^ (64 - s) := by rw [Nat.mul_comm (2 ^ s)] at this; exact Nat.lt_of_mul_lt_mul_right this
  have : (h + 1) * 2 ^ s ≤ 2 ^ (64 - s) * 2 ^ s := Nat.mul_le_mul_right _ this
  rw [p, Nat.add_mul, Nat.one_mul] at this
  omega
 refine ⟨((h * 2 ^ s + l / 2 ^ (64 - s) : Nat) : Int), ((l % 2 ^ (64 - s) * 2 ^ s : Nat) : Int), ?_, ?_, by omega, by omega, by omega, by omega, ?_⟩
 ·rw [e1, e2, IntKind.wrap_u64, show ((h * 2 ^ s : Nat) : Int) % 18446744073709551616 = ((h * 2 ^ s : Nat) : Int) by omega, bits_or_u64_nat _ _ (by omega) (by omega), or1]
 ·rw [e3, eB, IntKind.wrap_u64]; omega
 ·have e4 : ((h : Int) * 18446744073709551616 + (l : Int)) * 2 ^ s = ((h * 2 ^ s * 18446744073709551616 + l * 2 ^ s : Nat) : Int) := by
   rw [Int.add_mul, Int.mul_right_comm, e1, e3]; omega
  rw [e4, eB]; omega
theorem dback {N y Q R : Int} {s : Nat} (h : N * 2 ^ s = Q * (y * 2 ^ s) + R) (r0 : 0 ≤ R) (r1 : R < y * 2 ^ s) : Q * y + R / 2 ^ s = N ∧ 0 ≤ R / 2 ^ s ∧ R / 2 ^ s < y := by
 have hp : (0 : Int) < 2 ^ s := Int.pow_pos (by decide)
 have e : R = (N - Q * y) * 2 ^ s := by rw [Int.sub_mul, Int.mul_assoc]; omega
 have e2 : R / 2 ^ s = N - Q * y := by rw [e]; exact Int.mul_ediv_cancel _ (by omega)
 rw [e2]
 rw [e] at r0 r1
 exact ⟨by omega, Int.le_of_mul_le_mul_right (by rw [Int.zero_mul]; exact r0) hp, Int.lt_of_mul_lt_mul_right r1 (Int.le_of_lt hp)⟩
theorem djoin {Y u un1 un0 b q1 q0 N y : Int} {s : Nat} (f1 : DFin Y u un1 q1) (f0 : DFin Y (u * 4294967296 + un1 - q1 * Y) un0 q0) (hb : b = un1 * 4294967296 + un0)
 (hN : u * 18446744073709551616 + b = N * 2 ^ s) (hY : Y = y * 2 ^ s) :
 (q1 * 4294967296 + q0) * y + ((u * 4294967296 + un1 - q1 * Y) * 4294967296 + un0 - q0 * Y) / 2 ^ s = N ∧ 0 ≤ ((u * 4294967296 + un1 - q1 * Y) * 4294967296 + un0 - q0 * Y) / 2 ^ s ∧ ((u * 4294967296 + un1 - q1 * Y) * 4294967296 + un0 - q0 * Y) / 2 ^ s < y := by
 obtain ⟨_, _, a2, a3⟩ := f1
 obtain ⟨_, _, b2, b3⟩ := f0
 refine dback ?_ b2 (by rw [← hY]; exact b3)
 rw [← hN, ← hY, Int.add_mul (q1 * 4294967296) q0 Y, Int.mul_right_comm q1 4294967296 Y]
 generalize q1 * Y = c at *
 generalize q0 * Y = d at *
 omega
theorem lead_pow (y : Nat) (y0 : 1 ≤ y) (y1 : y < 18446744073709551616) : Lib.bitLen y ≤ 64 ∧ 1 ≤ Lib.bitLen y ∧ 9223372036854775808 ≤ y * 2 ^ (64 - Lib.bitLen y) ∧ y * 2 ^ (64 - Lib.bitLen y) < 18446744073709551616 := by
 have h1 := Lib.bitLenAux_bounds 64 y (by omega) (by omega)
 have h2 : Lib.bitLen y ≤ 64 := Lib.bitLen_le y 64 (by omega) (by omega)
 change 1 ≤ Lib.bitLen y ∧ 2 ^ (Lib.bitLen y - 1) ≤ y ∧ y < 2 ^ Lib.bitLen y at h1
 generalize Lib.bitLen y = n at *
 obtain ⟨h3, h4, h5⟩ := h1
 have e1 : (2:Nat) ^ (n - 1) * 2 ^ (64 - n) = 9223372036854775808 := by rw [← Nat.pow_add, show n - 1 + (64 - n) = 63 by omega]
 have e2 : (2:Nat) ^ n * 2 ^ (64 - n) = 18446744073709551616 := by rw [← Nat.pow_add, show n + (64 - n) = 64 by omega]
 have g1 : (2:Nat) ^ (n - 1) * 2 ^ (64 - n) ≤ y * 2 ^ (64 - n) := Nat.mul_le_mul_right _ h4
 have g2 : y * 2 ^ (64 - n) < 2 ^ n * 2 ^ (64 - n) := Nat.mul_lt_mul_of_pos_right h5 (Nat.two_pow_pos _)
 rw [e1] at g1; rw [e2] at g2
 exact ⟨h2, h3, g1, g2⟩
end Go.Proofs.YtdioaiepkhepaaaGreatDoor
