/- Plain arithmetic of a square root bit by bit. No program. -/
import Derived.Laws.Bits64b
import Derived.Laws.BitsAllLaws
namespace Go.Proofs.YtjgmipklbpghfaaDoor

/-- x is the root so far, b the next bit; 0: none is left. -/
def SqInv (A x b : Int) : Prop :=
  0 ≤ x ∧ x * x ≤ A ∧ ((∃ j : Nat, j ≤ 63 ∧ b = 2 ^ j ∧ x % (2 * b) = 0 ∧ x + 2 * b ≤ 18446744073709551616 ∧ A < (x + 2 * b) * (x + 2 * b)) ∨ (b = 0 ∧ A < (x + 1) * (x + 1)))

theorem sq_start {A : Int} (h0 : 0 ≤ A) (h1 : A < 340282366920938463463374607431768211456) : SqInv A 0 9223372036854775808 :=
  ⟨by decide, by omega, Or.inl ⟨63, by decide, by decide, by decide, by decide, by omega⟩⟩

theorem sq_word {A x b : Int} (h : SqInv A x b) (h1 : A < 340282366920938463463374607431768211456) : x < 18446744073709551616 := by
  obtain ⟨x0, hx, -⟩ := h
  refine Int.not_le.1 (fun hl => ?_)
  have : 18446744073709551616 * 18446744073709551616 ≤ x * x := Int.mul_le_mul hl hl (by decide) x0
  omega

theorem or_bit (x : Int) (j : Nat) (h0 : 0 ≤ x) (hx : x < 18446744073709551616) (hj : j ≤ 63) (hm : x % (2 * 2 ^ j) = 0) : bits .or .u64 x (2 ^ j) = x + 2 ^ j := by
  obtain ⟨x, rfl⟩ := Int.eq_ofNat_of_zero_le h0
  have e : ((2 : Int) ^ j) = ((2 ^ j : Nat) : Int) := by simp
  have hp : (2:Nat) ^ j ≤ 2 ^ 63 := Nat.pow_le_pow_right (by decide) hj
  rw [e, bits_or_u64_nat x (2 ^ j) (by omega) (by omega)]
  rw [e] at hm
  have hm2 : ((x % (2 * 2 ^ j) : Nat) : Int) = 0 := by rw [Int.natCast_emod, Int.natCast_mul]; exact hm
  have hm' : x % (2 ^ (j + 1)) = 0 := by rw [Nat.pow_succ, Nat.mul_comm]; exact Int.ofNat_eq_zero.1 hm2
  have d : x = 2 ^ (j + 1) * (x / 2 ^ (j + 1)) := by
    have := Nat.div_add_mod x (2 ^ (j + 1)); omega
  have : x ||| 2 ^ j = x + 2 ^ j := by
    rw [d]
    exact (Nat.two_pow_add_eq_or_of_lt (Nat.pow_lt_pow_of_lt (by decide) (by omega)) _).symm
  rw [this]; omega

/-- A round: t is the root with the bit. -/
theorem sq_round {A x b : Int} (h : SqInv A x b) (hb : b ≠ 0) (h1 : A < 340282366920938463463374607431768211456) :
    1 ≤ b ∧ b ≤ 9223372036854775808 ∧ bits .or .u64 x b = x + b ∧ 0 ≤ x + b ∧ x + b < 18446744073709551616 ∧ ((x + b) * (x + b) ≤ A → SqInv A (x + b) (b / 2)) ∧ (A < (x + b) * (x + b) → SqInv A x (b / 2)) := by
  have hw := sq_word h h1
  obtain ⟨x0, hx, ⟨j, hj, rfl, hm, hs, hA⟩ | ⟨h0, -⟩⟩ := h
  case inr => exact absurd h0 hb
  have hp : (1 : Int) ≤ 2 ^ j := Int.pow_pos (by decide)
  have hp2 : (2 : Int) ^ j ≤ 9223372036854775808 := by
    have e : ((2 : Int) ^ j) = ((2 ^ j : Nat) : Int) := by simp
    have : (2:Nat) ^ j ≤ 2 ^ 63 := Nat.pow_le_pow_right (by decide) hj
    rw [e]; omega
  refine ⟨hp, hp2, or_bit x j x0 hw hj hm, by omega, by omega, fun hle => ⟨by omega, hle, ?_⟩, fun hlt => ⟨x0, hx, ?_⟩⟩
  · rcases Nat.eq_zero_or_pos j with rfl | hjp
    · refine Or.inr ⟨by decide, ?_⟩
      simpa [Int.add_assoc] using hA
    · obtain ⟨i, rfl⟩ : ∃ i, j = i + 1 := ⟨j - 1, by omega⟩
      have e : (2 : Int) ^ (i + 1) = 2 * 2 ^ i := by rw [Int.pow_succ, Int.mul_comm]
      have e2 : (2 : Int) ^ (i + 1) / 2 = 2 ^ i := by rw [e]; omega
      rw [e2]
      refine Or.inl ⟨i, by omega, rfl, ?_, by omega, ?_⟩
      · rw [e] at hm ⊢
        generalize (2 : Int) ^ i = c at *
        have d := Int.emod_add_mul_ediv x (2 * (2 * c))
        rw [hm] at d
        rw [← d, Int.zero_add, show 2 * (2 * c) * (x / (2 * (2 * c))) + 2 * c = 2 * c * (2 * (x / (2 * (2 * c))) + 1) by
          rw [Int.mul_add, Int.mul_one, ← Int.mul_assoc (2 * c), Int.mul_comm (2 * c) 2]]
        exact Int.mul_emod_right _ _
      · rw [e] at hA ⊢
        have e3 : x + 2 * 2 ^ i + 2 * 2 ^ i = x + 2 * (2 * 2 ^ i) := by omega
        rw [e3]; exact hA
  · rcases Nat.eq_zero_or_pos j with rfl | hjp
    · exact Or.inr ⟨by decide, by simpa using hlt⟩
    · obtain ⟨i, rfl⟩ : ∃ i, j = i + 1 := ⟨j - 1, by omega⟩
      have e : (2 : Int) ^ (i + 1) = 2 * 2 ^ i := by rw [Int.pow_succ, Int.mul_comm]
      have e2 : (2 : Int) ^ (i + 1) / 2 = 2 ^ i := by rw [e]; omega
      rw [e2]
      refine Or.inl ⟨i, by omega, rfl, ?_, by omega, ?_⟩
      · rw [e] at hm
        generalize (2 : Int) ^ i = c at *
        have d := Int.emod_add_mul_ediv x (2 * (2 * c))
        rw [hm] at d
        rw [← d, Int.zero_add, Int.mul_assoc 2 (2 * c), Int.mul_left_comm 2 (2 * c)]
        exact Int.mul_emod_right _ _
      · rw [e] at hlt; exact hlt

theorem sq_end {A x : Int} (h : SqInv A x 0) : 0 ≤ x ∧ x * x ≤ A ∧ A < (x + 1) * (x + 1) := by
  obtain ⟨x0, hx, ⟨j, hj, hb, -⟩ | ⟨-, hA⟩⟩ := h
  · have : (0 : Int) < 2 ^ j := Int.pow_pos (by decide)
    omega
  · exact ⟨x0, hx, hA⟩
end Go.Proofs.YtjgmipklbpghfaaDoor
