/- Plain arithmetic of ref01: multiplication by doubling, division bit by bit. No program. -/
import Derived.Laws.Bits64b
import Derived.Laws.BitsAllLaws
import Derived.Test.YtfjhhadmncjdiaaGreatDoorNumMath
import Derived.Test.YtfjhhadmncjdiaaGreatDoorGround
namespace Go.Proofs.YtfjhhadmncjdiaaGreatDoor
open Go.RowKit

/-- X is the quotient so far, r the rest, j bits are left. -/
def DMInv (A d X r : Int) (j : Nat) : Prop := X * d + r * 2 ^ j + A % 2 ^ j = A ∧ X % 2 ^ j = 0 ∧ 0 ≤ X ∧ 0 ≤ r ∧ r < d

theorem dm_start {A d : Int} (h0 : 0 ≤ A) (h1 : A < 340282366920938463463374607431768211456) (hd : 1 ≤ d) : DMInv A d 0 0 128 := by
  refine ⟨?_, by decide, by decide, by decide, by omega⟩
  rw [show ((2 : Int) ^ 128) = 340282366920938463463374607431768211456 by decide, Int.emod_eq_of_lt h0 h1]
  omega

theorem mod_split (A : Int) (i : Nat) : A % 2 ^ (i + 1) = A / 2 ^ i % 2 * 2 ^ i + A % 2 ^ i := by
  have e : (2 : Int) ^ (i + 1) = 2 ^ i * 2 := Int.pow_succ 2 i
  have hp : (0 : Int) < 2 ^ i := Int.pow_pos (by decide)
  rw [e]
  have d1 := Int.emod_add_mul_ediv A (2 ^ i)
  have d2 := Int.emod_add_mul_ediv (A / 2 ^ i) 2
  have d3 := Int.emod_add_mul_ediv A (2 ^ i * 2)
  have d4 : A / (2 ^ i * 2) = A / 2 ^ i / 2 := by rw [Int.ediv_ediv_of_nonneg (Int.le_of_lt hp)]
  rw [d4] at d3
  have e2 : (A / 2 ^ i) * 2 ^ i = (A / 2 ^ i % 2) * 2 ^ i + 2 ^ i * 2 * (A / 2 ^ i / 2) := by
    have : (A / 2 ^ i) * 2 ^ i = (A / 2 ^ i % 2 + 2 * (A / 2 ^ i / 2)) * 2 ^ i := by rw [d2]
    rw [this, Int.add_mul, Int.mul_comm (2 ^ i) 2, Int.mul_right_comm]
  rw [Int.mul_comm] at d1
  omega

theorem dm_step {A d X r : Int} {i : Nat} (h : DMInv A d X r (i + 1)) :
    (2 * r + A / 2 ^ i % 2 < d → DMInv A d X (2 * r + A / 2 ^ i % 2) i) ∧ (d ≤ 2 * r + A / 2 ^ i % 2 → DMInv A d (X + 2 ^ i) (2 * r + A / 2 ^ i % 2 - d) i) := by
  obtain ⟨hA, hX, X0, r0, r1⟩ := h
  have hp : (0 : Int) < 2 ^ i := Int.pow_pos (by decide)
  have e : (2 : Int) ^ (i + 1) = 2 ^ i * 2 := Int.pow_succ 2 i
  have hb : A / 2 ^ i % 2 = 0 ∨ A / 2 ^ i % 2 = 1 := by omega
  rw [mod_split, e] at hA
  have hm : X % 2 ^ i = 0 := by
    rw [e] at hX
    exact Int.emod_eq_zero_of_dvd (Int.dvd_trans (Int.dvd_mul_right _ _) (Int.dvd_of_emod_eq_zero hX))
  have e2 : (2 * r + A / 2 ^ i % 2) * 2 ^ i = r * (2 ^ i * 2) + A / 2 ^ i % 2 * 2 ^ i := by
    rw [Int.add_mul, Int.mul_comm 2 r, Int.mul_assoc, Int.mul_comm 2 (2 ^ i)]
  refine ⟨fun hl => ⟨by omega, hm, X0, by omega, hl⟩, fun hl => ⟨?_, ?_, by omega, by omega, by omega⟩⟩
  · have e3 : (X + 2 ^ i) * d + (2 * r + A / 2 ^ i % 2 - d) * 2 ^ i = X * d + (2 * r + A / 2 ^ i % 2) * 2 ^ i := by
      rw [Int.add_mul, Int.sub_mul, Int.mul_comm (2 ^ i) d]; omega
    omega
  · rw [Int.add_emod, hm, Int.emod_self]; rfl

theorem dm_end {A d X r : Int} (h : DMInv A d X r 0) : X * d + r = A ∧ 0 ≤ r ∧ r < d := by
  obtain ⟨hA, -, -, r0, r1⟩ := h
  have e : A % 2 ^ 0 = 0 := by rw [Int.pow_zero]; exact Int.emod_one A
  rw [e, Int.pow_zero] at hA
  exact ⟨by omega, r0, r1⟩

/-- The bits of the two words. -/
theorem bit_hi {h l A : Int} (n : Nat) (hA : h * 18446744073709551616 + l = A) (l0 : 0 ≤ l) (l1 : l < 18446744073709551616) : A / 2 ^ (n + 64) % 2 = h / 2 ^ n % 2 := by
  have e : (2 : Int) ^ (n + 64) = 18446744073709551616 * 2 ^ n := by rw [Int.pow_add, Int.mul_comm]; rfl
  rw [e, ← Int.ediv_ediv_of_nonneg (by decide), show A / 18446744073709551616 = h by omega]
theorem bit_lo {h l A : Int} (n : Nat) (hn : n < 64) (hA : h * 18446744073709551616 + l = A) : A / 2 ^ n % 2 = l / 2 ^ n % 2 := by
  have hp : (2 : Int) ^ n ≠ 0 := Int.ne_of_gt (Int.pow_pos (by decide))
  obtain ⟨m, hm⟩ : ∃ m, 64 = m + 1 + n := ⟨63 - n, by omega⟩
  have e : (18446744073709551616 : Int) = 2 ^ m * 2 * 2 ^ n := by
    have : (18446744073709551616 : Int) = 2 ^ 64 := by decide
    rw [this, hm, Int.pow_add, Int.pow_succ]
  rw [← hA, e, ← Int.mul_assoc, Int.add_comm, Int.add_mul_ediv_right _ _ hp, ← Int.mul_assoc]
  omega
theorem and_one (k : Int) (h0 : 0 ≤ k) (h1 : k < 18446744073709551616) : bits .and .u64 k 1 = k % 2 := by
  obtain ⟨k, rfl⟩ := Int.eq_ofNat_of_zero_le h0
  have h := bits_and_u64_nat k 1 (by omega) (by omega)
  have e : k &&& 1 = k % 2 := Nat.and_two_pow_sub_one_eq_mod k 1
  rw [e] at h
  exact h.trans (by omega)
theorem and_one_t {k : Int} (h0 : 0 ≤ k) (h1 : k < 18446744073709551616) (h : k % 2 = 1) : (bits .and .u64 k 1 == 1) = true := by rw [and_one k h0 h1, h]; rfl
theorem and_one_f {k : Int} (h0 : 0 ≤ k) (h1 : k < 18446744073709551616) (h : k % 2 = 0) : (bits .and .u64 k 1 == 1) = false := by rw [and_one k h0 h1, h]; rfl

theorem pow_le63 {n : Nat} (hn : n ≤ 63) : (1 : Int) ≤ 2 ^ n ∧ (2 : Int) ^ n ≤ 9223372036854775808 := by
  have hp : (1 : Int) ≤ 2 ^ n := Int.pow_pos (by decide)
  have e : ((2 : Int) ^ n) = ((2 ^ n : Nat) : Int) := by simp
  have : (2:Nat) ^ n ≤ 2 ^ 63 := Nat.pow_le_pow_right (by decide) hn
  exact ⟨hp, by rw [e]; omega⟩
/-- A bit set in a word whose lower bits are 0. -/
theorem or_word {x : Int} {n : Nat} (h0 : 0 ≤ x) (hx : x < 18446744073709551616) (hn : n ≤ 63) (hm : x % (2 * 2 ^ n) = 0) :
    bits .or .u64 x (IntKind.u64.wrap (2 ^ n)) = x + 2 ^ n ∧ x + 2 ^ n < 18446744073709551616 := by
  obtain ⟨p0, p1⟩ := pow_le63 hn
  have e : IntKind.u64.wrap (2 ^ n) = 2 ^ n := by rw [IntKind.wrap_u64]; omega
  rw [e]
  refine ⟨or_bit x n h0 hx hn hm, ?_⟩
  obtain ⟨m, hm2⟩ : ∃ m : Nat, 64 = n + 1 + m := ⟨63 - n, by omega⟩
  have e2 : (18446744073709551616 : Int) = 2 * 2 ^ n * 2 ^ m := by
    have : (18446744073709551616 : Int) = 2 ^ 64 := by decide
    rw [this, hm2, Int.pow_add, Int.pow_succ, Int.mul_comm (2 ^ n) 2]
  have d := Int.emod_add_mul_ediv x (2 * 2 ^ n)
  rw [hm] at d
  have hlt : x / (2 * 2 ^ n) < 2 ^ m := by
    refine Int.not_le.1 (fun hl => ?_)
    have : 2 * 2 ^ n * 2 ^ m ≤ 2 * 2 ^ n * (x / (2 * 2 ^ n)) := Int.mul_le_mul_of_nonneg_left hl (by omega)
    omega
  have : 2 * 2 ^ n * (x / (2 * 2 ^ n) + 1) ≤ 2 * 2 ^ n * 2 ^ m := Int.mul_le_mul_of_nonneg_left (by omega) (by omega)
  rw [Int.mul_add, Int.mul_one] at this
  omega
theorem or_hi {h l X : Int} {n : Nat} (u : IsU h l X) (hn : n ≤ 63) (hm : X % 2 ^ (n + 64 + 1) = 0) :
    ∃ h' : Int, bits .or .u64 h (IntKind.u64.wrap (2 ^ n)) = h' ∧ IsU h' l (X + 2 ^ (n + 64)) := by
  obtain ⟨h0, h1, l0, l1, e⟩ := u
  have hm2 : h % (2 * 2 ^ n) = 0 := by
    have e3 : (2 : Int) ^ (n + 64 + 1) = 2 * 2 ^ n * 18446744073709551616 := by rw [Int.pow_succ, Int.pow_add, Int.mul_right_comm, Int.mul_comm (2 ^ n) 2]; rfl
    obtain ⟨z, hz⟩ := Int.dvd_of_emod_eq_zero hm
    rw [e3, Int.mul_right_comm] at hz
    generalize hy : 2 * 2 ^ n * z = y at hz
    have : h = y := by omega
    rw [this, ← hy]
    exact Int.mul_emod_right _ _
  obtain ⟨e1, e2⟩ := or_word h0 h1 hn hm2
  obtain ⟨p0, p1⟩ := pow_le63 hn
  refine ⟨h + 2 ^ n, e1, by omega, e2, l0, l1, ?_⟩
  have e4 : (2 : Int) ^ (n + 64) = 2 ^ n * 18446744073709551616 := by rw [Int.pow_add]; rfl
  rw [e4, Int.add_mul]; omega
theorem or_lo {h l X : Int} {n : Nat} (u : IsU h l X) (hn : n ≤ 63) (hm : X % 2 ^ (n + 1) = 0) :
    ∃ l' : Int, bits .or .u64 l (IntKind.u64.wrap (2 ^ n)) = l' ∧ IsU h l' (X + 2 ^ n) := by
  obtain ⟨h0, h1, l0, l1, e⟩ := u
  have hm2 : l % (2 * 2 ^ n) = 0 := by
    obtain ⟨m, hm2⟩ : ∃ m : Nat, 64 = n + 1 + m := ⟨63 - n, by omega⟩
    have e2 : (18446744073709551616 : Int) = 2 ^ (n + 1) * 2 ^ m := by
      have : (18446744073709551616 : Int) = 2 ^ 64 := by decide
      rw [this, hm2, Int.pow_add]
    obtain ⟨z, hz⟩ := Int.dvd_of_emod_eq_zero hm
    have : l = 2 ^ (n + 1) * (z - h * 2 ^ m) := by
      rw [Int.mul_sub, ← hz, ← e, e2, Int.mul_left_comm]; omega
    rw [this, Int.mul_comm 2, ← Int.pow_succ]
    exact Int.mul_emod_right _ _
  obtain ⟨e1, e2⟩ := or_word l0 l1 hn hm2
  obtain ⟨p0, p1⟩ := pow_le63 hn
  exact ⟨l + 2 ^ n, e1, h0, h1, by omega, e2, by omega⟩
theorem or_even {x bt : Int} (h0 : 0 ≤ x) (h1 : x < 9223372036854775808) (hb : bt = 0 ∨ bt = 1) : bits .or .u64 (x * 2) bt = 2 * x + bt := by
  obtain ⟨x, rfl⟩ := Int.eq_ofNat_of_zero_le h0
  have e : ((x : Int) * 2) = ((2 ^ 1 * x : Nat) : Int) := by omega
  rcases hb with rfl | rfl
  · have h := bits_or_u64_nat (2 ^ 1 * x) 0 (by omega) (by omega)
    rw [e]
    refine h.trans ?_
    rw [Nat.or_zero]; omega
  · have h := bits_or_u64_nat (2 ^ 1 * x) 1 (by omega) (by omega)
    rw [e]
    refine h.trans ?_
    rw [(Nat.two_pow_add_eq_or_of_lt (i := 1) (b := 1) (by decide) x).symm]; omega
/-- The next rest, in words: the three ways. -/
theorem dm_cases {r d bt : Int} (r0 : 0 ≤ r) (r1 : r < d) (d1 : d < 18446744073709551616) (hb : bt = 0 ∨ bt = 1) :
    (r / 9223372036854775808 = 1 ∧ ∃ y z : Int, bits .or .u64 (IntKind.u64.wrap (r * 2)) bt = y ∧ IntKind.u64.wrap (y - d) = z ∧ Hid (z = 2 * r + bt - d ∧ d ≤ 2 * r + bt)) ∨
    (r / 9223372036854775808 = 0 ∧ r ≤ 9223372036854775807 ∧ ∃ y : Int, bits .or .u64 (r * 2) bt = y ∧ 0 ≤ y ∧ y < 18446744073709551616 ∧ d ≤ y ∧ Hid (y = 2 * r + bt)) ∨
    (r / 9223372036854775808 = 0 ∧ r ≤ 9223372036854775807 ∧ ∃ y : Int, bits .or .u64 (r * 2) bt = y ∧ 0 ≤ y ∧ y < 18446744073709551616 ∧ y < d ∧ Hid (y = 2 * r + bt)) := by
  by_cases h : r < 9223372036854775808
  · right
    have e := or_even r0 h hb
    by_cases hd : d ≤ 2 * r + bt
    · exact Or.inl ⟨by omega, by omega, _, e, by omega, by omega, hd, rfl⟩
    · exact Or.inr ⟨by omega, by omega, _, e, by omega, by omega, by omega, rfl⟩
  · left
    have e1 : IntKind.u64.wrap (r * 2) = (r - 9223372036854775808) * 2 := by rw [IntKind.wrap_u64]; omega
    have e := or_even (x := r - 9223372036854775808) (by omega) (by omega) hb
    refine ⟨by omega, _, _, (congrArg (fun q => bits .or .u64 q bt) e1).trans e, rfl, ?_, by omega⟩
    rw [IntKind.wrap_u64]
    omega
end Go.Proofs.YtfjhhadmncjdiaaGreatDoor
