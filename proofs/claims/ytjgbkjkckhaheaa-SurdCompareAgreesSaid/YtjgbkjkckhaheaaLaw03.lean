/- The statements of chapter 03, as plain laws of what the functions compute. -/
import Derived.Test.YtjgbkjkckhaheaaSm03b
import Derived.Laws.Closers25b
namespace Go.Proofs.Ytjgbkjkckhaheaa
open Go.RowKit

theorem wrapW (x : Int) : IsW (IntKind.u64.wrap x) := by
  obtain ⟨a, b⟩ := wrap_within .u64 x
  exact isW a b
theorem awake03 : F_law03_awake = true := by
  rw [F_law03_awake_eq, sHalf ⟨by decide, by decide⟩ ⟨by decide, by decide⟩ ⟨by decide, by decide⟩ ⟨by decide, by decide⟩ ⟨by decide, by decide⟩,
    sHalf ⟨by decide, by decide⟩ ⟨by decide, by decide⟩ ⟨by decide, by decide⟩ ⟨by decide, by decide⟩ ⟨by decide, by decide⟩,
    sCompare ⟨by decide, by decide⟩ ⟨by decide, by decide⟩ ⟨by decide, by decide⟩ ⟨by decide, by decide⟩ ⟨by decide, by decide⟩ ⟨by decide, by decide⟩]
  decide

/-! gen -/
theorem gMod {x n : Int} (h1 : 1 ≤ n) (h2 : n ≤ 4611686018427387904) : F_gen_Mod x n = x % n := by
  rw [F_gen_Mod_eq]
  have a : (decide (n < 1)) = false := by simp; omega
  have b : (n == 0) = false := by simp; omega
  simp only [a, b, cond_false]
  have l := Int.tmod_lt_of_pos x (b := n) (by omega)
  have g := Int.lt_tmod_of_pos x (b := n) (by omega)
  have e := Int.tmod_add_mul_tdiv x n
  rw [show IntKind.i64.wrap (Int.tmod x n + n) = Int.tmod x n + n from wrap_in _ _ (by simp [IntKind.min, IntKind.signed, IntKind.bits]; omega) (by simp [IntKind.max, IntKind.signed, IntKind.bits]; omega)]
  rw [Int.tmod_eq_emod_of_nonneg (by omega)]
  have : x = Int.tmod x n + n + n * (Int.tdiv x n - 1) := by rw [Int.mul_sub, Int.mul_one]; omega
  conv => rhs; rw [this]
  rw [Int.add_mul_emod_self_left]

theorem gMod_W {x n : Int} (h1 : 1 ≤ n) (h2 : n ≤ 4611686018427387904) : IntKind.u64.wrap (F_gen_Mod x n) = x % n := by
  have a := Int.emod_nonneg x (b := n) (by omega)
  have b := Int.emod_lt_of_pos x (b := n) (by omega)
  rw [gMod h1 h2, u64_in a (by omega)]
theorem gMod1_W {x n : Int} (h1 : 1 ≤ n) (h2 : n ≤ 4611686018427387904) : IntKind.u64.wrap (IntKind.i64.wrap (1 + F_gen_Mod x n)) = 1 + x % n := by
  have a := Int.emod_nonneg x (b := n) (by omega)
  have b := Int.emod_lt_of_pos x (b := n) (by omega)
  rw [gMod h1 h2, wrap_in .i64 _ (by simp [IntKind.min, IntKind.signed, IntKind.bits]; omega) (by simp [IntKind.max, IntKind.signed, IntKind.bits]; omega), u64_in (by omega) (by omega)]

abbrev XWof (x : Int × Int × Int × Int × Int) : Prop := XW x.1 x.2.1 x.2.2.1 x.2.2.2.1 x.2.2.2.2
theorem gExact_W (a b c d : Int) : XWof (F_gen_Exact a b c d) := by
  rw [F_gen_Exact_eq]
  simp only
  cases F_gen_Mod a 4 == 0 with
  | true => exact ⟨zero_W, wrapW _, wrapW _, wrapW _, wrapW _⟩
  | false =>
    cases F_gen_Mod a 4 == 1 with
    | true => exact ⟨zero_W, wrapW _, wrapW _, wrapW _, wrapW _⟩
    | false =>
      cases F_gen_Mod a 4 == 2 with
      | true => exact ⟨wrapW _, wrapW _, wrapW _, wrapW _, wrapW _⟩
      | false => exact ⟨zero_W, wrapW _, wrapW _, wrapW _, wrapW _⟩

/-! SurdValidAgrees -/
theorem valids (ph pl q r d : Int) : F_surd_Valid ph pl q r d = F_ref01_ValidExact ph pl q r d := by rw [sValid, rValid]
theorem surdValidAgrees (p0 p1 p2 p3 p4 p5 p6 p7 p8 p9 : Int) : F_law03_SurdValidAgrees p0 p1 p2 p3 p4 p5 p6 p7 p8 p9 = true := by
  rw [F_law03_SurdValidAgrees_eq]
  simp only [awake03, valids, beq_self_eq_true, cond_true]
  simp

/-! SurdCompareAgrees -/
theorem comps {ph pl q r d n : Int} (h : XW ph pl q r d) (hn : IsW n) : F_surd_Compare ph pl q r d n = F_ref01_CompareExact ph pl q r d n := by
  rw [sCompare h.ph h.pl h.q h.r h.d hn, rCompareE h.ph h.pl h.q h.r h.d hn]
theorem surdCompareAgrees {p0 p1 p2 p3 p4 : Int} (h : XW p0 p1 p2 p3 p4) (p5 p6 p7 p8 : Int) {p9 : Int} (h9 : IsW p9) : F_law03_SurdCompareAgrees p0 p1 p2 p3 p4 p5 p6 p7 p8 p9 = true := by
  rw [F_law03_SurdCompareAgrees_eq]
  simp only [awake03, comps (gExact_W p5 p6 p7 p8) (wrapW _), comps h h9, beq_self_eq_true, cond_true]

/-! SurdRoundingAgrees -/
theorem floors {ph pl q r d : Int} (h : XW ph pl q r d) : F_surd_Floor ph pl q r d = F_ref01_FloorExact ph pl q r d := by
  rw [sFloor h.ph h.pl h.q h.r h.d]; rfl
theorem halves {ph pl q r d : Int} (h : XW ph pl q r d) : F_surd_Half ph pl q r d = F_ref01_HalfExact ph pl q r d := by
  rw [sHalf h.ph h.pl h.q h.r h.d, F_ref01_HalfExact_eq]
  simp only [F_ref01_FloorExact]
  by_cases hv : VE ph q r d
  · have hQ := hv.isQ h.q h.r
    have hf := flE_bd (P := U ph pl) (S := q * q * r) (d := d) (isU h.ph h.pl).nn hQ.bd.2.2.1 hv.2.2.2
    simp only [if_pos hv, haE]
    generalize flE (U ph pl) (q * q * r) d = m at hf
    obtain ⟨f, ok⟩ := m
    simp only at hf
    rw [u64_in (x := 2 * f) (by omega) (by omega), u64_in (x := 2 * f + 1) (by omega) (by omega), u64_in (x := f + 1) (by omega) (by omega)]
    cases ok with
    | false => simp
    | true =>
      rw [rTimes2 h.ph h.pl hv.1 h.d ⟨by omega, by omega⟩ (q2 hv.2.1 h.q.1 h.r hv.2.2.1)]
      by_cases hc : 0 ≤ cmpE (2 * U ph pl) (2 * q * (2 * q) * r) d (2 * f + 1)
      · have hc' : cmpE (2 * U ph pl) (2 * q * (2 * q) * r) d (2 * f + 1) ≥ 0 := hc
        by_cases hx : f + 1 < 9223372036854775808
        · have : ¬ f + 1 ≥ 9223372036854775808 := by omega
          simp [hc, hx, this]
        · have : f + 1 ≥ 9223372036854775808 := by omega
          simp [hc, hx, this]
      · have : ¬ f ≥ 9223372036854775808 := by omega
        simp [hc, this]
  · simp [hv]
theorem surdRoundingAgrees {p0 p1 p2 p3 p4 : Int} (h : XW p0 p1 p2 p3 p4) (p5 p6 p7 p8 : Int) : F_law03_SurdRoundingAgrees p0 p1 p2 p3 p4 p5 p6 p7 p8 = true := by
  rw [F_law03_SurdRoundingAgrees_eq]
  simp only [awake03, floors h, floors (gExact_W p5 p6 p7 p8), halves h, halves (gExact_W p5 p6 p7 p8), beq_self_eq_true, cond_true]

/-! SurdFloorByCompare -/
theorem surdFloorByCompare (p0 p1 p2 p3 : Int) : F_law03_SurdFloorByCompare p0 p1 p2 p3 = true := by
  rw [F_law03_SurdFloorByCompare_eq]
  have h := gExact_W p0 p1 p2 p3
  simp only [awake03]
  generalize F_gen_Exact p0 p1 p2 p3 = x at h
  obtain ⟨ph, pl, q, r, d⟩ := x
  simp only [XWof] at h ⊢
  rw [sFloor h.ph h.pl h.q h.r h.d, sHalf h.ph h.pl h.q h.r h.d]
  by_cases hv : VE ph q r d
  · have hS := (hv.isQ h.q h.r).bd.2.2.1
    have hd := hv.2.2.2
    have hle (n : Int) := cmpE_le (P := U ph pl) (n := n) hS hd
    have hM : 0 ≤ (U ph pl + isq (q * q * r)) / d := Int.ediv_nonneg (by have := (isq_spec hS).1; have := (isU h.ph h.pl).nn; omega) (by omega)
    simp only [if_pos hv, haE, flE]
    obtain ⟨M, hMe⟩ : ∃ M, (U ph pl + isq (q * q * r)) / d = M := ⟨_, rfl⟩
    simp only [hMe] at hle hM ⊢
    by_cases hx : M < 9223372036854775808
    · simp only [if_pos hx]
      rw [u64_in (x := M + 1) (by omega) (by omega)]
      rw [sCompare h.ph h.pl h.q h.r h.d ⟨hM, by omega⟩, sCompare h.ph h.pl h.q h.r h.d (n := M + 1) ⟨by omega, by omega⟩]
      simp only [if_pos hv]
      have c1 : 0 ≤ cmpE (U ph pl) (q * q * r) d M := (hle M).2 (Int.le_refl _)
      have c2 : ¬ 0 ≤ cmpE (U ph pl) (q * q * r) d (M + 1) := fun hy => by have := (hle (M + 1)).1 hy; omega
      have c2' : cmpE (U ph pl) (q * q * r) d (M + 1) < 0 := by omega
      simp only [ge_iff_le, c1, c2', decide_true, Bool.not_true, cond_false, cond_true, if_true]
      by_cases hc : 0 ≤ cmpE (2 * U ph pl) (2 * q * (2 * q) * r) d (2 * M + 1)
      · by_cases hx : M + 1 < 9223372036854775808
        · have : (M + 1 == M) = false := by simp; omega
          simp [hc, hx]
        · simp [hc, hx]
      · simp [hc]
    · simp [if_neg hx]
  · simp [hv]

/-! SurdSquares -/
theorem sq3 (b c : Int) : b * b * (c * c) = b * c * (b * c) := by
  rw [Int.mul_assoc, Int.mul_assoc, Int.mul_left_comm b c c]
theorem isq_sq {x : Int} (h : 0 ≤ x) : isq (x * x) = x := by
  have e : (x + 1) * (x + 1) = x * x + 2 * x + 1 := by rw [Int.add_mul, Int.mul_add, Int.mul_one, Int.one_mul]; omega
  exact isq_eq (Int.mul_nonneg h h) h (Int.le_refl _) (by omega)
theorem cmpI_ge {x y : Int} : 0 ≤ cmpI x y ↔ y ≤ x := cmpI_nn
/-- A whole root: the nearest integer to X / d, ties up. -/
def near (X d : Int) : Int := if d ≤ 2 * (X % d) then X / d + 1 else X / d
theorem haE_whole {P m d : Int} (hP : 0 ≤ P) (hm : 0 ≤ m) (hd : 1 ≤ d) (hb : P + m < 9223372036854775807) : haE P (m * m) (4 * (m * m)) d = (near (P + m) d, true) := by
  have hX : 0 ≤ (P + m) / d := Int.ediv_nonneg (by omega) (by omega)
  have hX2 : (P + m) / d ≤ P + m := Int.ediv_le_self _ (by omega)
  have hm2 := Int.mul_ediv_add_emod (P + m) d
  have h1 := Int.emod_nonneg (P + m) (b := d) (by omega)
  have h2 := Int.emod_lt_of_pos (P + m) (b := d) (by omega)
  unfold haE flE near
  rw [isq_sq hm]
  generalize (P + m) / d = f at *
  generalize hr : (P + m) % d = r at *
  have hlt : f < 9223372036854775808 := by omega
  simp only [if_pos hlt, if_true]
  have hc : 0 ≤ cmpE (2 * P) (4 * (m * m)) d (2 * f + 1) ↔ d ≤ 2 * r := by
    have e : (2 * f + 1) * d = 2 * (d * f) + d := by rw [Int.add_mul, Int.one_mul, Int.mul_assoc, Int.mul_comm f d]
    have e4 : 4 * (m * m) = 2 * m * (2 * m) := by rw [Int.mul_assoc 2 m, Int.mul_left_comm m 2 m]; omega
    unfold cmpE
    rw [e, e4]
    split
    · exact ⟨fun _ => by omega, fun _ => by omega⟩
    · rw [cmpI_nn, sq_le (by omega) (by omega)]
      omega
  by_cases h : d ≤ 2 * r
  · have hlt2 : f + 1 < 9223372036854775808 := by omega
    rw [if_pos (hc.2 h), if_pos hlt2, if_pos h]
  · rw [if_neg (fun hx => h (hc.1 hx)), if_neg h]

theorem surdSquares (p0 p1 p2 p3 : Int) : F_law03_SurdSquares p0 p1 p2 p3 = true := by
  rw [F_law03_SurdSquares_eq]
  simp only [awake03, gMod_W (x := p0) (n := 1099511627776) (by decide) (by decide), gMod_W (x := p1) (n := 1048576) (by decide) (by decide), gMod_W (x := p2) (n := 65536) (by decide) (by decide), gMod1_W (x := p3) (n := 1048576) (by decide) (by decide), cond_true]
  have a0 := Int.emod_nonneg p0 (b := 1099511627776) (by decide)
  have a1 := Int.emod_lt_of_pos p0 (b := 1099511627776) (by decide)
  have b0 := Int.emod_nonneg p1 (b := 1048576) (by decide)
  have b1 := Int.emod_lt_of_pos p1 (b := 1048576) (by decide)
  have c0 := Int.emod_nonneg p2 (b := 65536) (by decide)
  have c1 := Int.emod_lt_of_pos p2 (b := 65536) (by decide)
  have d0 := Int.emod_nonneg p3 (b := 1048576) (by decide)
  have d1 := Int.emod_lt_of_pos p3 (b := 1048576) (by decide)
  generalize p0 % 1099511627776 = a at *
  generalize p1 % 1048576 = b at *
  generalize p2 % 65536 = c at *
  generalize p3 % 1048576 = d' at *
  obtain ⟨d, hd⟩ : ∃ d, 1 + d' = d := ⟨_, rfl⟩
  rw [hd]
  have hbc0 := Int.mul_nonneg b0 c0
  have hbc1 : b * c < 1048576 * 65536 := mul_lt b0 b1 (Int.le_of_lt c1) (by decide)
  have hcc0 := Int.mul_nonneg c0 c0
  have hcc1 : c * c < 65536 * 65536 := mul_lt c0 c1 (Int.le_of_lt c1) (by decide)
  rw [u64_in (x := c * c) hcc0 (by omega), u64_in (x := b * c) hbc0 (by omega), u64_in (x := a + b * c) (by omega) (by omega)]
  have W (x : Int) (h0 : 0 ≤ x) (h1 : x < 18446744073709551616) : IsW x := ⟨h0, h1⟩
  have U0 (x : Int) : U 0 x = x := by unfold U; omega
  have v1 : VE 0 b (c * c) d := ⟨by decide, by omega, by omega, by omega⟩
  have v2 : VE 0 0 0 d := ⟨by decide, by decide, by decide, by omega⟩
  rw [sHalf zero_W (W a a0 (by omega)) (W b b0 (by omega)) (W (c * c) hcc0 (by omega)) (W d (by omega) (by omega)),
    sHalf zero_W (W (a + b * c) (by omega) (by omega)) zero_W zero_W (W d (by omega) (by omega)), if_pos v1, if_pos v2, U0, U0, four_sq, sq3, haE_whole a0 hbc0 (by omega) (by omega)]
  have hz := haE_whole (P := a + b * c) (m := 0) (d := d) (by omega) (by decide) (by omega) (by omega)
  rw [Int.add_zero] at hz
  have e0 : (2 * 0 * (2 * 0) * 0 : Int) = 4 * (0 * 0) := by decide
  have e1 : (0 * 0 * 0 : Int) = 0 * 0 := by decide
  rw [e0, e1, hz]
  simp only [beq_self_eq_true, cond_true]
  rw [F_ref01_Half_eq]
  have hX : 0 ≤ a + b * c := by omega
  have hdz : (d == 0) = false := by simp; omega
  simp only [hdz, cond_false]
  have r1 := Int.emod_nonneg (a + b * c) (b := d) (by omega)
  have r2 := Int.emod_lt_of_pos (a + b * c) (b := d) (by omega)
  have q1 : 0 ≤ (a + b * c) / d := Int.ediv_nonneg hX (by omega)
  have q2 : (a + b * c) / d ≤ a + b * c := Int.ediv_le_self _ hX
  rw [Int.tmod_eq_emod_of_nonneg hX, Int.tdiv_eq_ediv_of_nonneg hX, u64_in (x := d - (a + b * c) % d) (by omega) (by omega), u64_in (x := (a + b * c) / d) q1 (by omega), u64_in (x := (a + b * c) / d + 1) (by omega) (by omega)]
  unfold near
  by_cases h : d ≤ 2 * ((a + b * c) % d)
  · have h' : (a + b * c) % d ≥ d - (a + b * c) % d := by omega
    simp [h, h']
  · have h' : ¬ (a + b * c) % d ≥ d - (a + b * c) % d := by omega
    simp [h, h']

/-! SurdScales -/
theorem cmpI_scale {x y k : Int} (hk : 1 ≤ k) : cmpI (k * x) (k * y) = cmpI x y := by
  have lt : k * x < k * y ↔ x < y := ⟨fun h => Int.lt_of_mul_lt_mul_left h (by omega), fun h => Int.mul_lt_mul_of_pos_left h (by omega)⟩
  have eq : k * x = k * y ↔ x = y := ⟨fun h => Int.eq_of_mul_eq_mul_left (by omega) h, fun h => by rw [h]⟩
  unfold cmpI
  simp only [lt, eq]
theorem cmpE_scale {P S d n m : Int} (hm : 1 ≤ m) : cmpE (P * m) (m * m * S) (d * m) n = cmpE P S d n := by
  have e : n * (d * m) = m * (n * d) := by rw [← Int.mul_assoc, Int.mul_comm]
  have eP : P * m = m * P := Int.mul_comm _ _
  unfold cmpE
  rw [e, eP]
  have lt : m * (n * d) < m * P ↔ n * d < P := ⟨fun h => Int.lt_of_mul_lt_mul_left h (by omega), fun h => Int.mul_lt_mul_of_pos_left h (by omega)⟩
  rw [← Int.mul_sub]
  have e2 : m * (n * d - P) * (m * (n * d - P)) = m * m * ((n * d - P) * (n * d - P)) := by
    rw [Int.mul_assoc, Int.mul_left_comm (n * d - P), ← Int.mul_assoc]
  rw [e2, cmpI_scale (k := m * m) (by have := Int.mul_le_mul hm hm (by decide) (by omega); omega)]
  simp only [lt]
theorem le_iff_eq {a b : Int} (h : ∀ n : Int, n ≤ a ↔ n ≤ b) : a = b := by
  have := (h a).1 (Int.le_refl _)
  have := (h b).2 (Int.le_refl _)
  omega
theorem flE_scale {P S d m : Int} (hS : 0 ≤ S) (hd : 1 ≤ d) (hm : 1 ≤ m) : flE (P * m) (m * m * S) (d * m) = flE P S d := by
  have hdm : 1 ≤ d * m := by have := Int.mul_le_mul hd hm (by decide) (by omega); omega
  have hmm : 0 ≤ m * m * S := Int.mul_nonneg (Int.mul_nonneg (by omega) (by omega)) hS
  have : (P * m + isq (m * m * S)) / (d * m) = (P + isq S) / d := le_iff_eq fun n => by
    rw [← cmpE_le hmm hdm, ← cmpE_le hS hd, cmpE_scale hm]
  unfold flE
  rw [this]
theorem haE_scale {P S d m : Int} (hS : 0 ≤ S) (hd : 1 ≤ d) (hm : 1 ≤ m) : haE (P * m) (m * m * S) (4 * (m * m * S)) (d * m) = haE P S (4 * S) d := by
  unfold haE
  rw [flE_scale hS hd hm]
  have e1 : 2 * (P * m) = 2 * P * m := by rw [Int.mul_assoc]
  have e2 : 4 * (m * m * S) = m * m * (4 * S) := Int.mul_left_comm _ _ _
  rw [e1, e2, cmpE_scale hm]

/-- What the generated numbers are, where they are not huge. -/
theorem gExact_small (a b c d : Int) : (F_gen_Exact a b c d).2.2.2.2 > 1099511627776 ∨ ((F_gen_Exact a b c d).1 = 0 ∧ (F_gen_Exact a b c d).2.1 < 1099511627776 ∧ (F_gen_Exact a b c d).2.2.1 < 1048576 ∧ (F_gen_Exact a b c d).2.2.2.2 ≤ 65536 ∧ 1 ≤ (F_gen_Exact a b c d).2.2.2.2) := by
  rw [F_gen_Exact_eq]
  simp only [gMod_W (n := 1099511627776) (by decide) (by decide), gMod_W (n := 1048576) (by decide) (by decide), gMod1_W (n := 65536) (by decide) (by decide), gMod1_W (n := 4) (by decide) (by decide), gMod_W (n := 50) (by decide) (by decide), gMod_W (n := 4) (by decide) (by decide), gMod_W (n := 10) (by decide) (by decide), gMod_W (n := 100) (by decide) (by decide)]
  cases F_gen_Mod a 4 == 0 with
  | true => right; refine ⟨rfl, ?_, ?_, ?_, ?_⟩ <;> simp only [cond_true] <;> omega
  | false =>
    cases F_gen_Mod a 4 == 1 with
    | true => right; refine ⟨rfl, ?_, ?_, ?_, ?_⟩ <;> simp only [cond_true, cond_false] <;> omega
    | false =>
      cases F_gen_Mod a 4 == 2 with
      | true => left; simp only [cond_true, cond_false]; rw [u64_in (by omega) (by omega)]; omega
      | false => right; refine ⟨rfl, ?_, ?_, ?_, ?_⟩ <;> simp only [cond_false] <;> omega

theorem surdScales (p0 p1 p2 p3 p4 : Int) : F_law03_SurdScales p0 p1 p2 p3 p4 = true := by
  rw [F_law03_SurdScales_eq]
  have h := gExact_W p0 p1 p2 p3
  have hs := gExact_small p0 p1 p2 p3
  simp only [awake03]
  generalize F_gen_Exact p0 p1 p2 p3 = x at h hs
  obtain ⟨ph, pl, q, r, d⟩ := x
  simp only [XWof] at h hs ⊢
  by_cases hd : d > 1099511627776
  · simp [hd]
  · rcases hs with hs | ⟨rfl, s1, s2, s3, s4⟩
    · exact absurd hs hd
    have m0 := Int.emod_nonneg p4 (b := 1000) (by decide)
    have m1 := Int.emod_lt_of_pos p4 (b := 1000) (by decide)
    simp only [hd, decide_false, cond_false, cond_true, gMod1_W (n := 1000) (by decide) (by decide)]
    obtain ⟨m, hm⟩ : ∃ m, 1 + p4 % 1000 = m := ⟨_, rfl⟩
    rw [hm]
    have hp0 := h.pl.1
    have hq0 := h.q.1
    have U0 (x : Int) : U 0 x = x := by unfold U; omega
    have hpm0 := Int.mul_nonneg hp0 (show 0 ≤ m by omega)
    have hpm : pl * m < 1099511627776 * 1000 := mul_lt hp0 s1 (by omega) (by decide)
    have hqm0 := Int.mul_nonneg hq0 (show 0 ≤ m by omega)
    have hqm : q * m < 1048576 * 1000 := mul_lt hq0 s2 (by omega) (by decide)
    have hdm0 : 1 * 1 ≤ d * m := Int.mul_le_mul s4 (by omega) (by decide) (by omega)
    have hdm : d * m < 65537 * 1000 := mul_lt (by omega) (by omega) (by omega) (by decide)
    have eM : F_ref01_MulSmall 0 pl m = (0, pl * m, true) := by
      unfold F_ref01_MulSmall mul128
      rw [U0, if_pos (by rw [two128_eq]; omega)]
      have a : hiW (pl * m) = 0 := by unfold hiW; omega
      have b : loW (pl * m) = pl * m := by unfold loW; omega
      rw [a, b]
    simp only [eM]
    rw [u64_in (x := q * m) hqm0 (by omega), u64_in (x := d * m) (by omega) (by omega)]
    rw [sHalf h.ph h.pl h.q h.r h.d, sHalf zero_W ⟨hpm0, by omega⟩ ⟨hqm0, by omega⟩ h.r ⟨by omega, by omega⟩]
    by_cases hv : VE 0 q r d
    · have hv2 : VE 0 (q * m) r (d * m) := ⟨by decide, by omega, hv.2.2.1, by omega⟩
      rw [if_pos hv, if_pos hv2, four_sq, four_sq, U0, U0]
      have e : q * m * (q * m) * r = m * m * (q * q * r) := by
        rw [Int.mul_comm q m, Int.mul_assoc m q, Int.mul_left_comm q m q, ← Int.mul_assoc m m, Int.mul_assoc (m * m)]
      rw [e, haE_scale (hv.isQ h.q h.r).bd.2.2.1 s4 (by omega)]
      simp
    · have hv2 : ¬ VE 0 (q * m) r (d * m) := fun hx => hv ⟨by decide, by omega, hx.2.2.1, s4⟩
      rw [if_neg hv, if_neg hv2]
      simp
end Go.Proofs.Ytjgbkjkckhaheaa
