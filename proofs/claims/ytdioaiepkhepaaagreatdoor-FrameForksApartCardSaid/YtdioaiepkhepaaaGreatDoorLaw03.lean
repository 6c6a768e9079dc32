/- The statements of chapter 03, as plain laws of what the functions compute. -/
import Derived.Test.YtdioaiepkhepaaaGreatDoorSm03b
import Derived.Laws.Closers25b
namespace Go.Proofs.YtdioaiepkhepaaaGreatDoor
open Go.RowKit
theorem wrapW (x : Int) : IsW (IntKind.u64.wrap x) := by
 obtain ⟨a, b⟩ := wrap_within .u64 x
 exact isW a b
theorem gMod {x n : Int} (h1 : 1 ≤ n) (h2 : n ≤ 4611686018427387904) : F_gen_Mod x n = x % n := by
 rw [F_gen_Mod_eq]
 have a : (decide (n < 1)) = false := by simp; omega
 have b : (n == 0) = false := by simp; omega
 simp only [a, b, cond_false]
 have l := Int.tmod_lt_of_pos x (b := n) (by omega)
 have g := Int.lt_tmod_of_pos x (b := n) (by omega)
 have e := Int.tmod_add_mul_tdiv x n
 rw [show IntKind.i64.wrap (Int.tmod x n + n) = Int.tmod x n + n from wrap_in _ _ (by simp [IntKind.min, IntKind.signed, IntKind.bits]; omega) (by simp [IntKind.max, IntKind.signed, IntKind.bits]; omega)]
 rw [Int.tmod_eq_emod_of_nonneg (by omega)]
 have : x = Int.tmod x n + n + n * (Int.tdiv x n - 1) := by rw [Int.mul_sub, Int.mul_one]; omega
 conv => rhs; rw [this]
 rw [Int.add_mul_emod_self_left]
abbrev XWof (x : Int × Int × Int × Int × Int) : Prop := XW x.1 x.2.1 x.2.2.1 x.2.2.2.1 x.2.2.2.2
theorem halves {ph pl q r d : Int} (h : XW ph pl q r d) : F_surd_Half ph pl q r d = F_r1_HalfExact ph pl q r d := by
 rw [sHalf h.ph h.pl h.q h.r h.d, F_r1_HalfExact_eq]
 simp only [F_r1_FloorExact]
 by_cases hv : VE ph q r d
 ·have hQ := hv.isQ h.q h.r
  have hf := flE_bd (P := U ph pl) (S := q * q * r) (d := d) (isU h.ph h.pl).nn hQ.bd.2.2.1 hv.2.2.2
  simp only [if_pos hv, haE]
  generalize flE (U ph pl) (q * q * r) d = m at hf
  obtain ⟨f, ok⟩ := m
  simp only at hf
  rw [u64_in (x := 2 * f) (by omega) (by omega), u64_in (x := 2 * f + 1) (by omega) (by omega), u64_in (x := f + 1) (by omega) (by omega)]
  cases ok with
  | false => simp
  | true =>
   rw [rTimes2 h.ph h.pl hv.1 h.d ⟨by omega, by omega⟩ (q2 hv.2.1 h.q.1 h.r hv.2.2.1)]
   by_cases hc : 0 ≤ cmpE (2 * U ph pl) (2 * q * (2 * q) * r) d (2 * f + 1)
   ·have hc' : cmpE (2 * U ph pl) (2 * q * (2 * q) * r) d (2 * f + 1) ≥ 0 := hc
    by_cases hx : f + 1 < 9223372036854775808
    ·have : ¬ f + 1 ≥ 9223372036854775808 := by omega
     simp [hc, hx, this]
    ·have : f + 1 ≥ 9223372036854775808 := by omega
     simp [hc, hx, this]
   ·have : ¬ f ≥ 9223372036854775808 := by omega
    simp [hc, this]
 ·simp [hv]
theorem le_iff_eq {a b : Int} (h : ∀ n : Int, n ≤ a ↔ n ≤ b) : a = b := by
 have := (h a).1 (Int.le_refl _)
 have := (h b).2 (Int.le_refl _)
 omega
end Go.Proofs.YtdioaiepkhepaaaGreatDoor
