/- The statements of chapter 03, as plain laws of what the functions compute. -/
import Derived.Test.YtfjhhadmncjdiaaGreatDoorSm03b
import Derived.Laws.Closers25b
namespace Go.Proofs.YtfjhhadmncjdiaaGreatDoor
open Go.RowKit

theorem wrapW (x : Int) : IsW (IntKind.u64.wrap x) := by
  obtain ⟨a, b⟩ := wrap_within .u64 x
  exact isW a b

/-! gen -/
theorem gMod {x n : Int} (h1 : 1 ≤ n) (h2 : n ≤ 4611686018427387904) : F_gen_Mod x n = x % n := by
  rw [F_gen_Mod_eq]
  have a : (decide (n < 1)) = false := by simp; omega
  have b : (n == 0) = false := by simp; omega
  simp only [a, b, cond_false]
  have l := Int.tmod_lt_of_pos x (b := n) (by omega)
  have g := Int.lt_tmod_of_pos x (b := n) (by omega)
  have e := Int.tmod_add_mul_tdiv x n
  rw [show IntKind.i64.wrap (Int.tmod x n + n) = Int.tmod x n + n from wrap_in _ _ (by simp [IntKind.min, IntKind.signed, IntKind.bits]; omega) (by simp [IntKind.max, IntKind.signed, IntKind.bits]; omega)]
  rw [Int.tmod_eq_emod_of_nonneg (by omega)]
  have : x = Int.tmod x n + n + n * (Int.tdiv x n - 1) := by rw [Int.mul_sub, Int.mul_one]; omega
  conv => rhs; rw [this]
  rw [Int.add_mul_emod_self_left]

theorem gMod_W {x n : Int} (h1 : 1 ≤ n) (h2 : n ≤ 4611686018427387904) : IntKind.u64.wrap (F_gen_Mod x n) = x % n := by
  have a := Int.emod_nonneg x (b := n) (by omega)
  have b := Int.emod_lt_of_pos x (b := n) (by omega)
  rw [gMod h1 h2, u64_in a (by omega)]
theorem gMod1_W {x n : Int} (h1 : 1 ≤ n) (h2 : n ≤ 4611686018427387904) : IntKind.u64.wrap (IntKind.i64.wrap (1 + F_gen_Mod x n)) = 1 + x % n := by
  have a := Int.emod_nonneg x (b := n) (by omega)
  have b := Int.emod_lt_of_pos x (b := n) (by omega)
  rw [gMod h1 h2, wrap_in .i64 _ (by simp [IntKind.min, IntKind.signed, IntKind.bits]; omega) (by simp [IntKind.max, IntKind.signed, IntKind.bits]; omega), u64_in (by omega) (by omega)]

abbrev XWof (x : Int × Int × Int × Int × Int) : Prop := XW x.1 x.2.1 x.2.2.1 x.2.2.2.1 x.2.2.2.2

/-! SurdValidAgrees -/
theorem valids (ph pl q r d : Int) : F_surd_Valid ph pl q r d = F_ref01_ValidExact ph pl q r d := by rw [sValid, rValid]

/-! SurdCompareAgrees -/

/-! SurdRoundingAgrees -/
theorem floors {ph pl q r d : Int} (h : XW ph pl q r d) : F_surd_Floor ph pl q r d = F_ref01_FloorExact ph pl q r d := by
  rw [sFloor h.ph h.pl h.q h.r h.d]; rfl
theorem halves {ph pl q r d : Int} (h : XW ph pl q r d) : F_surd_Half ph pl q r d = F_ref01_HalfExact ph pl q r d := by
  rw [sHalf h.ph h.pl h.q h.r h.d, F_ref01_HalfExact_eq]
  simp only [F_ref01_FloorExact]
  by_cases hv : VE ph q r d
  · have hQ := hv.isQ h.q h.r
    have hf := flE_bd (P := U ph pl) (S := q * q * r) (d := d) (isU h.ph h.pl).nn hQ.bd.2.2.1 hv.2.2.2
    simp only [if_pos hv, haE]
    generalize flE (U ph pl) (q * q * r) d = m at hf
    obtain ⟨f, ok⟩ := m
    simp only at hf
    rw [u64_in (x := 2 * f) (by omega) (by omega), u64_in (x := 2 * f + 1) (by omega) (by omega), u64_in (x := f + 1) (by omega) (by omega)]
    cases ok with
    | false => simp
    | true =>
      rw [rTimes2 h.ph h.pl hv.1 h.d ⟨by omega, by omega⟩ (q2 hv.2.1 h.q.1 h.r hv.2.2.1)]
      by_cases hc : 0 ≤ cmpE (2 * U ph pl) (2 * q * (2 * q) * r) d (2 * f + 1)
      · have hc' : cmpE (2 * U ph pl) (2 * q * (2 * q) * r) d (2 * f + 1) ≥ 0 := hc
        by_cases hx : f + 1 < 9223372036854775808
        · have : ¬ f + 1 ≥ 9223372036854775808 := by omega
          simp [hc, hx, this]
        · have : f + 1 ≥ 9223372036854775808 := by omega
          simp [hc, hx, this]
      · have : ¬ f ≥ 9223372036854775808 := by omega
        simp [hc, this]
  · simp [hv]

/-! SurdFloorByCompare -/

/-! SurdSquares -/
theorem sq3 (b c : Int) : b * b * (c * c) = b * c * (b * c) := by
  rw [Int.mul_assoc, Int.mul_assoc, Int.mul_left_comm b c c]
theorem isq_sq {x : Int} (h : 0 ≤ x) : isq (x * x) = x := by
  have e : (x + 1) * (x + 1) = x * x + 2 * x + 1 := by rw [Int.add_mul, Int.mul_add, Int.mul_one, Int.one_mul]; omega
  exact isq_eq (Int.mul_nonneg h h) h (Int.le_refl _) (by omega)
theorem cmpI_ge {x y : Int} : 0 ≤ cmpI x y ↔ y ≤ x := cmpI_nn
/-- A whole root: the nearest integer to X / d, ties up. -/
def near (X d : Int) : Int := if d ≤ 2 * (X % d) then X / d + 1 else X / d
theorem haE_whole {P m d : Int} (hP : 0 ≤ P) (hm : 0 ≤ m) (hd : 1 ≤ d) (hb : P + m < 9223372036854775807) : haE P (m * m) (4 * (m * m)) d = (near (P + m) d, true) := by
  have hX : 0 ≤ (P + m) / d := Int.ediv_nonneg (by omega) (by omega)
  have hX2 : (P + m) / d ≤ P + m := Int.ediv_le_self _ (by omega)
  have hm2 := Int.mul_ediv_add_emod (P + m) d
  have h1 := Int.emod_nonneg (P + m) (b := d) (by omega)
  have h2 := Int.emod_lt_of_pos (P + m) (b := d) (by omega)
  unfold haE flE near
  rw [isq_sq hm]
  generalize (P + m) / d = f at *
  generalize hr : (P + m) % d = r at *
  have hlt : f < 9223372036854775808 := by omega
  simp only [if_pos hlt, if_true]
  have hc : 0 ≤ cmpE (2 * P) (4 * (m * m)) d (2 * f + 1) ↔ d ≤ 2 * r := by
    have e : (2 * f + 1) * d = 2 * (d * f) + d := by rw [Int.add_mul, Int.one_mul, Int.mul_assoc, Int.mul_comm f d]
    have e4 : 4 * (m * m) = 2 * m * (2 * m) := by rw [Int.mul_assoc 2 m, Int.mul_left_comm m 2 m]; omega
    unfold cmpE
    rw [e, e4]
    split
    · exact ⟨fun _ => by omega, fun _ => by omega⟩
    · rw [cmpI_nn, sq_le (by omega) (by omega)]
      omega
  by_cases h : d ≤ 2 * r
  · have hlt2 : f + 1 < 9223372036854775808 := by omega
    rw [if_pos (hc.2 h), if_pos hlt2, if_pos h]
  · rw [if_neg (fun hx => h (hc.1 hx)), if_neg h]


/-! SurdScales -/
theorem cmpI_scale {x y k : Int} (hk : 1 ≤ k) : cmpI (k * x) (k * y) = cmpI x y := by
  have lt : k * x < k * y ↔ x < y := ⟨fun h => Int.lt_of_mul_lt_mul_left h (by omega), fun h => Int.mul_lt_mul_of_pos_left h (by omega)⟩
  have eq : k * x = k * y ↔ x = y := ⟨fun h => Int.eq_of_mul_eq_mul_left (by omega) h, fun h => by rw [h]⟩
  unfold cmpI
  simp only [lt, eq]
theorem cmpE_scale {P S d n m : Int} (hm : 1 ≤ m) : cmpE (P * m) (m * m * S) (d * m) n = cmpE P S d n := by
  have e : n * (d * m) = m * (n * d) := by rw [← Int.mul_assoc, Int.mul_comm]
  have eP : P * m = m * P := Int.mul_comm _ _
  unfold cmpE
  rw [e, eP]
  have lt : m * (n * d) < m * P ↔ n * d < P := ⟨fun h => Int.lt_of_mul_lt_mul_left h (by omega), fun h => Int.mul_lt_mul_of_pos_left h (by omega)⟩
  rw [← Int.mul_sub]
  have e2 : m * (n * d - P) * (m * (n * d - P)) = m * m * ((n * d - P) * (n * d - P)) := by
    rw [Int.mul_assoc, Int.mul_left_comm (n * d - P), ← Int.mul_assoc]
  rw [e2, cmpI_scale (k := m * m) (by have := Int.mul_le_mul hm hm (by decide) (by omega); omega)]
  simp only [lt]
theorem le_iff_eq {a b : Int} (h : ∀ n : Int, n ≤ a ↔ n ≤ b) : a = b := by
  have := (h a).1 (Int.le_refl _)
  have := (h b).2 (Int.le_refl _)
  omega
theorem flE_scale {P S d m : Int} (hS : 0 ≤ S) (hd : 1 ≤ d) (hm : 1 ≤ m) : flE (P * m) (m * m * S) (d * m) = flE P S d := by
  have hdm : 1 ≤ d * m := by have := Int.mul_le_mul hd hm (by decide) (by omega); omega
  have hmm : 0 ≤ m * m * S := Int.mul_nonneg (Int.mul_nonneg (by omega) (by omega)) hS
  have : (P * m + isq (m * m * S)) / (d * m) = (P + isq S) / d := le_iff_eq fun n => by
    rw [← cmpE_le hmm hdm, ← cmpE_le hS hd, cmpE_scale hm]
  unfold flE
  rw [this]
theorem haE_scale {P S d m : Int} (hS : 0 ≤ S) (hd : 1 ≤ d) (hm : 1 ≤ m) : haE (P * m) (m * m * S) (4 * (m * m * S)) (d * m) = haE P S (4 * S) d := by
  unfold haE
  rw [flE_scale hS hd hm]
  have e1 : 2 * (P * m) = 2 * P * m := by rw [Int.mul_assoc]
  have e2 : 4 * (m * m * S) = m * m * (4 * S) := Int.mul_left_comm _ _ _
  rw [e1, e2, cmpE_scale hm]

/- What the generated numbers are, where they are not huge. -/

end Go.Proofs.YtfjhhadmncjdiaaGreatDoor
