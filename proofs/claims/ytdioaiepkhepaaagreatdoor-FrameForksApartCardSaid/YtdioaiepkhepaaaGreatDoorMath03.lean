/- What the functions of layer 3 compute, as numbers. Words of 64 bits. -/
import Derived.Test.YtdioaiepkhepaaaGreatDoorSm03
namespace Go.Proofs.YtdioaiepkhepaaaGreatDoor
open Go.RowKit
theorem mul_lt {a b A B : Int} (a0 : 0 ≤ a) (a1 : a < A) (b1 : b ≤ B) (hB : 0 < B) : a * b < A * B :=
 Int.lt_of_le_of_lt (Int.mul_le_mul_of_nonneg_left b1 a0) (Int.mul_lt_mul_of_pos_right a1 hB)
def IsQ (q r S : Int) : Prop := 0 ≤ q ∧ q < 140737488355328 ∧ 0 ≤ r ∧ r < 8589934592 ∧ q * q * r = S
theorem IsQ.bd {q r S : Int} (h : IsQ q r S) : 0 ≤ q * q ∧ q * q < 19807040628566084398385987584 ∧ 0 ≤ S ∧ S < 170141183460469231731687303715884105728 := by
 obtain ⟨q0, q1, r0, r1, rfl⟩ := h
 have a := Int.mul_nonneg q0 q0
 have b : q * q < 140737488355328 * 140737488355328 := mul_lt q0 q1 (Int.le_of_lt q1) (by decide)
 have c := Int.mul_nonneg a r0
 have e : q * q * r < 140737488355328 * 140737488355328 * 8589934592 := mul_lt a b (Int.le_of_lt r1) (by decide)
 exact ⟨a, by omega, c, by omega⟩
theorem root_big {S N nh nl : Int} (hn : IsU nh nl N) (h : 0 < nh) (s1 : S < 170141183460469231731687303715884105728) : cmpI S (N * N) = -1 := by
 have a := hn.eq
 have b := hn.2.2.1
 have c : 18446744073709551616 ≤ N := by omega
 have d : 18446744073709551616 * 18446744073709551616 ≤ N * N := Int.mul_le_mul c c (by decide) (by omega)
 exact cmpI_lt (by omega)
theorem word_mul {a b : Int} (ha : IsW a) (hb : IsW b) : 0 ≤ a * b ∧ a * b < 340282366920938463463374607431768211456 :=
 ⟨Int.mul_nonneg ha.1 hb.1, mul_lt (A := 18446744073709551616) (B := 18446744073709551616) ha.1 ha.2 (Int.le_of_lt hb.2) (by decide)⟩
def VE (ph q r d : Int) : Prop := ph < 4294967296 ∧ q < 70368744177664 ∧ r < 8589934592 ∧ 1 ≤ d
instance (ph q r d : Int) : Decidable (VE ph q r d) := by unfold VE; infer_instance
def cmpE (P S d n : Int) : Int := if n * d < P then 1 else cmpI S ((n * d - P) * (n * d - P))
theorem VE.isQ {ph q r d : Int} (h : VE ph q r d) (hq : IsW q) (hr : IsW r) : IsQ q r (q * q * r) := ⟨hq.1, by have := h.2.1; omega, hr.1, h.2.2.1, rfl⟩
theorem bif_dec (c d : Prop) [Decidable c] [Decidable d] : (bif decide c then decide d else false) = decide (c ∧ d) := by by_cases h : c <;> simp [h]
theorem sValid (ph pl q r d : Int) : F_surd_Valid ph pl q r d = decide (VE ph q r d) := by
 rw [F_surd_Valid_eq, bif_dec, bif_dec, bif_dec]
 rfl
theorem rValid (ph pl q r d : Int) : F_r1_ValidExact ph pl q r d = decide (VE ph q r d) := by
 rw [F_r1_ValidExact_eq, bif_dec, bif_dec, bif_dec]
 rfl
theorem two128_eq : two128 = 340282366920938463463374607431768211456 := rfl
theorem sSquare {ph pl q r d S : Int} (h : IsQ q r S) : F_surd_square ph pl q r d = (hiW S, loW S) := by
 have hb := h.bd
 rw [F_surd_square_eq]
 simp only [F_wide_Mul, F_wide_MulSmall, mul128, U_hl]
 rw [if_pos (by rw [h.2.2.2.2, two128_eq]; omega), h.2.2.2.2]
theorem sRoot {ph pl q r d S nh nl : Int} (h : IsQ q r S) (a : IsW nh) (b : IsW nl) : F_surd_root ph pl q r d nh nl = cmpI S (U nh nl * U nh nl) := by
 rw [F_surd_root_eq, sSquare h]
 simp only [F_wide_Mul, F_wide_Compare, U_hl]
 by_cases hz : nh > 0
 ·rw [root_big (isU a b) hz h.bd.2.2.2]; simp [hz]
 ·have : nh = 0 := by have := a.1; omega
  subst this
  simp [U]
theorem rRoot {ph pl q r d S nh nl : Int} (h : IsQ q r S) (a : IsW nh) (b : IsW nl) : F_r1_root ph pl q r d nh nl = cmpI S (U nh nl * U nh nl) := by
 have hb := h.bd
 rw [F_r1_root_eq]
 simp only [F_r1_Mul, F_r1_MulSmall, F_r1_Compare, mul128, U_hl]
 rw [if_pos (by rw [h.2.2.2.2, two128_eq]; omega), h.2.2.2.2]
 simp only [U_hl]
 by_cases hz : nh > 0
 ·rw [root_big (isU a b) hz hb.2.2.2]; simp [hz]
 ·have : nh = 0 := by have := a.1; omega
  subst this
  simp [U]
theorem rTimes1 {ph pl q r d n : Int} (hp : IsW ph) (hl : IsW pl) (hd : IsW d) (hn : IsW n) (h : IsQ q r (q * q * r)) :
 F_r1_times ph pl q r d false n = cmpE (U ph pl) (q * q * r) d n := by
 have hm := word_mul hn hd
 have hP := (isU hp hl).nn
 rw [F_r1_times_eq]
 simp only [F_r1_Mul, F_r1_Sub, sub128, U_hl, cond_false, cmpE]
 by_cases hc : U ph pl ≤ n * d
 ·have hw := hl_W (X := n * d - U ph pl) (by omega) (by rw [two128_eq]; omega)
  rw [if_pos hc, if_neg (by omega)]
  simp only [Bool.not_true, cond_false]
  rw [rRoot h hw.1 hw.2, U_hl]
 ·rw [if_neg hc, if_pos (by omega)]
  simp
theorem u64_in {x : Int} (h0 : 0 ≤ x) (h1 : x < 18446744073709551616) : IntKind.u64.wrap x = x := IntWalk.u64_in x ⟨h0, by omega⟩
theorem rTimes2 {ph pl q r d n : Int} (hp : IsW ph) (hl : IsW pl) (hp2 : ph < 4294967296) (hd : IsW d) (hn : IsW n) (h : IsQ (2 * q) r (2 * q * (2 * q) * r)) :
 F_r1_times ph pl q r d true n = cmpE (2 * U ph pl) (2 * q * (2 * q) * r) d n := by
 have hm := word_mul hn hd
 have hP := (isU hp hl).nn
 have hP2 : 2 * U ph pl < two128 := by
  have := hl.2
  unfold U
  rw [two128_eq]
  omega
 have hq : IntKind.u64.wrap (2 * q) = 2 * q := u64_in h.1 (by have := h.2.1; omega)
 have e2 : U ph pl + U ph pl = 2 * U ph pl := by omega
 rw [F_r1_times_eq]
 simp only [F_r1_Mul, F_r1_Add, F_r1_Sub, add128, e2, if_pos hP2, sub128, U_hl, cond_true, cmpE, hq]
 by_cases hc : 2 * U ph pl ≤ n * d
 ·have hw := hl_W (X := n * d - 2 * U ph pl) (by omega) (by rw [two128_eq]; omega)
  rw [if_pos hc, if_neg (by omega)]
  simp only [Bool.not_true, cond_false]
  rw [rRoot h hw.1 hw.2, U_hl]
 ·rw [if_neg hc, if_pos (by omega)]
  simp
theorem cmpI_nn {x y : Int} : 0 ≤ cmpI x y ↔ y ≤ x := by
 unfold cmpI
 split
 ·omega
 ·split <;> omega
theorem sq_le {x y : Int} (hx : 0 ≤ x) (hy : 0 ≤ y) : x * x ≤ y * y ↔ x ≤ y := by
 constructor
 ·intro h
  rcases Int.lt_or_le y x with hlt | hle
  ·have : (y + 1) * (y + 1) ≤ x * x := Int.mul_le_mul (by omega) (by omega) (by omega) hx
   have e : (y + 1) * (y + 1) = y * y + 2 * y + 1 := by rw [Int.add_mul, Int.mul_add, Int.mul_one, Int.one_mul]; omega
   omega
  ·exact hle
 ·intro h; exact Int.mul_le_mul h h hx hy
theorem sq_isq {X x : Int} (hX : 0 ≤ X) (hx : 0 ≤ x) : x * x ≤ X ↔ x ≤ isq X := by
 obtain ⟨a, b, c⟩ := isq_spec hX
 constructor
 ·intro h
  rcases Int.lt_or_le (isq X) x with hlt | hle
  ·have : (isq X + 1) * (isq X + 1) ≤ x * x := Int.mul_le_mul (by omega) (by omega) (by omega) hx
   omega
  ·exact hle
 ·intro h
  have := (sq_le hx a).2 h
  omega
theorem cmpE_le {P S d n : Int} (hS : 0 ≤ S) (hd : 1 ≤ d) : 0 ≤ cmpE P S d n ↔ n ≤ (P + isq S) / d := by
 rw [Int.le_ediv_iff_mul_le (by omega)]
 obtain ⟨a, b, c⟩ := isq_spec hS
 unfold cmpE
 split
 ·rename_i h
  exact ⟨fun _ => by omega, fun _ => by omega⟩
 ·rename_i h
  rw [cmpI_nn, sq_isq hS (by omega)]
  omega
noncomputable def flE (P S d : Int) : Int × Bool := if (P + isq S) / d < 9223372036854775808 then ((P + isq S) / d, true) else (0, false)
theorem isq_bd {S : Int} (h0 : 0 ≤ S) (h1 : S < 340282366920938463463374607431768211456) : IsW (isq S) := by
 obtain ⟨a, b, c⟩ := isq_spec h0
 refine ⟨a, ?_⟩
 rcases Int.lt_or_le (isq S) 18446744073709551616 with h | h
 ·exact h
 ·have : 18446744073709551616 * 18446744073709551616 ≤ isq S * isq S := Int.mul_le_mul h h (by decide) a
  omega
theorem sFloor {ph pl q r d : Int} (hp : IsW ph) (hl : IsW pl) (hq : IsW q) (hr : IsW r) (_hd : IsW d) :
 F_surd_Floor ph pl q r d = if VE ph q r d then flE (U ph pl) (q * q * r) d else (0, false) := by
 rw [F_surd_Floor_eq, sValid]
 by_cases hv : VE ph q r d
 ·have hQ := hv.isQ hq hr
  have hb := hQ.bd
  have hs := isq_bd hb.2.2.1 (by omega)
  have hP := (isU hp hl).nn
  have hP2 : U ph pl < 79228162514264337593543950336 := by have := hv.1; have := hl.2; unfold U; omega
  have hsum : U ph pl + isq (q * q * r) < two128 := by have := hs.2; rw [two128_eq]; omega
  have hd1 := hv.2.2.2
  simp only [hv, decide_true, Bool.not_true, cond_false, if_true]
  rw [sSquare hQ]
  simp only [F_wide_Sqrt, F_wide_Of, F_wide_Add, F_wide_DivMod, add128, U_hl]
  have eU : U 0 (isq (q * q * r)) = isq (q * q * r) := by unfold U; omega
  rw [eU, if_pos hsum, U_hl, if_neg (by omega)]
  simp only [flE]
  have hnn : 0 ≤ (U ph pl + isq (q * q * r)) / d := Int.ediv_nonneg (by have := hs.1; omega) (by omega)
  generalize (U ph pl + isq (q * q * r)) / d = m at hnn
  by_cases h1 : hiW m > 0
  ·have : ¬ m < 9223372036854775808 := by unfold hiW at h1; omega
   simp [h1, this]
  ·have e : loW m = m := by unfold loW hiW at *; omega
   rw [e]
   by_cases h2 : m < 9223372036854775808
   ·have : ¬ m ≥ 9223372036854775808 := by omega
    simp [h1, h2, this]
   ·have : m ≥ 9223372036854775808 := by omega
    simp [h1, h2, this]
 ·simp [hv]
theorem q2 {q r : Int} (h : q < 70368744177664) (h0 : 0 ≤ q) (hr : IsW r) (hr2 : r < 8589934592) : IsQ (2 * q) r (2 * q * (2 * q) * r) := ⟨by omega, by omega, hr.1, hr2, rfl⟩
theorem four_sq (q r : Int) : 2 * q * (2 * q) * r = 4 * (q * q * r) := by
 rw [show 2 * q * (2 * q) = 4 * (q * q) by rw [Int.mul_assoc 2 q, Int.mul_left_comm q 2 q, ← Int.mul_assoc]; rfl, Int.mul_assoc]
theorem even_sq {S k m : Int} (hk : k = 2 * m) : cmpI (4 * S) (k * k) = cmpI S (m * m) := by
 have e : k * k = 4 * (m * m) := by subst hk; rw [Int.mul_assoc 2 m, Int.mul_left_comm m 2 m, ← Int.mul_assoc]; rfl
 rw [e]
 unfold cmpI
 by_cases h1 : S < m * m
 ·rw [if_pos h1, if_pos (by omega)]
 ·rw [if_neg h1, if_neg (by omega)]
  by_cases h2 : S = m * m
  ·rw [if_pos h2, if_pos (by omega)]
  ·rw [if_neg h2, if_neg (by omega)]
theorem odd_sq {S k m : Int} (hk : k = 2 * m + 1) : 0 ≤ cmpI (4 * S) (k * k) ↔ m * m + m < S := by
 have e : k * k = 4 * (m * m + m) + 1 := by
  subst hk
  have a : (2 * m + 1) * (2 * m + 1) = 2 * m * (2 * m) + 2 * m + 2 * m + 1 := by rw [Int.add_mul, Int.mul_add, Int.mul_one, Int.one_mul]; omega
  have b : 2 * m * (2 * m) = 4 * (m * m) := by rw [Int.mul_assoc 2 m, Int.mul_left_comm m 2 m, ← Int.mul_assoc]; rfl
  omega
 rw [cmpI_nn, e]
 omega
theorem cmpI_gt0 {x y : Int} : cmpI x y > 0 ↔ y < x := by
 unfold cmpI
 split
 ·omega
 ·split <;> omega
theorem sUp {ph pl q r d f : Int} (hp : IsW ph) (hl : IsW pl) (hq : IsW q) (hr : IsW r) (hd : IsW d) (hv : VE ph q r d) (f0 : 0 ≤ f) (f1 : f < 9223372036854775808) :
 F_surd_up ph pl q r d f = decide (0 ≤ cmpE (2 * U ph pl) (2 * q * (2 * q) * r) d (2 * f + 1)) := by
 have hQ := hv.isQ hq hr
 have hb := hQ.bd
 have hP := (isU hp hl).nn
 have hP2 : U ph pl * 2 < two128 := by have := hv.1; have := hl.2; unfold U; rw [two128_eq]; omega
 have hn : IsW (2 * f + 1) := ⟨by omega, by omega⟩
 have hm := word_mul hn hd
 rw [F_surd_up_eq, u64_in (x := 2 * f) (by omega) (by omega), u64_in (x := 2 * f + 1) (by omega) (by omega)]
 simp only [F_wide_Mul, F_wide_MulSmall, mul128, if_pos hP2, F_wide_Sub, sub128, U_hl, cmpE, four_sq]
 have e2 : U ph pl * 2 = 2 * U ph pl := by omega
 rw [e2]
 by_cases hc : 2 * U ph pl ≤ (2 * f + 1) * d
 ·rw [if_pos hc, if_neg (by omega)]
  generalize hk : (2 * f + 1) * d - 2 * U ph pl = k
  have k0 : 0 ≤ k := by omega
  have k1 : k < two128 := by rw [two128_eq]; omega
  simp only [Bool.not_true, cond_false, F_wide_DivMod, U_hl]
  rw [if_neg (by decide)]
  simp only
  have hw := hl_W (X := k / 2) (by omega) (by rw [two128_eq] at *; omega)
  by_cases h1 : hiW (k / 2) > 0
  ·have hbig : (k / 2) ≥ 18446744073709551616 := by unfold hiW at h1; omega
   have : ¬ 0 ≤ cmpI (4 * (q * q * r)) (k * k) := by
    rw [cmpI_nn]
    have : 36893488147419103232 * 36893488147419103232 ≤ k * k := Int.mul_le_mul (by omega) (by omega) (by decide) k0
    omega
   simp [h1, this]
  ·have h1' : hiW (k / 2) = 0 := by have := hw.1.1; omega
   have eL : loW (k / 2) = k / 2 := by unfold loW hiW at *; omega
   rw [sRoot hQ hw.1 hw.2, U_hl]
   rcases Int.emod_two_eq k with hz | hz
   ·have hk2 : k = 2 * (k / 2) := by omega
    simp only [h1', hz, even_sq hk2]
    simp
   ·have hk2 : k = 2 * (k / 2) + 1 := by omega
    have hmm := word_mul hw.2 hw.2
    rw [eL] at hmm
    simp only [h1', hz, eL, sSquare hQ, F_wide_Add, add128, U_hl, F_wide_Compare]
    have eU : U 0 (k / 2) = k / 2 := by unfold U; omega
    rw [eU]
    by_cases ho : k / 2 * (k / 2) + k / 2 < two128
    ·rw [if_pos ho]
     simp only [U_hl]
     have := odd_sq (S := q * q * r) hk2
     simp only [decide_eq_decide.2 this, decide_eq_decide.2 (cmpI_gt0 (x := q * q * r) (y := k / 2 * (k / 2) + k / 2))]
     simp
    ·rw [if_neg ho]
     have : ¬ 0 ≤ cmpI (4 * (q * q * r)) (k * k) := by rw [odd_sq hk2]; rw [two128_eq] at ho; omega
     simp [this]
 ·rw [if_neg hc, if_pos (by omega)]
  simp
noncomputable def haE (P S S4 d : Int) : Int × Bool :=
 if (flE P S d).2 then
  if 0 ≤ cmpE (2 * P) S4 d (2 * (flE P S d).1 + 1) then
   if (flE P S d).1 + 1 < 9223372036854775808 then ((flE P S d).1 + 1, true) else (0, false)
  else ((flE P S d).1, true)
 else (0, false)
theorem flE_bd {P S d : Int} (hP : 0 ≤ P) (hS : 0 ≤ S) (hd : 1 ≤ d) : 0 ≤ (flE P S d).1 ∧ (flE P S d).1 < 9223372036854775808 := by
 unfold flE
 have hnn : 0 ≤ (P + isq S) / d := Int.ediv_nonneg (by have := (isq_spec hS).1; omega) (by omega)
 split
 ·exact ⟨hnn, by assumption⟩
 ·exact ⟨by decide, by decide⟩
theorem sHalf {ph pl q r d : Int} (hp : IsW ph) (hl : IsW pl) (hq : IsW q) (hr : IsW r) (hd : IsW d) :
 F_surd_Half ph pl q r d = if VE ph q r d then haE (U ph pl) (q * q * r) (2 * q * (2 * q) * r) d else (0, false) := by
 rw [F_surd_Half_eq, sFloor hp hl hq hr hd]
 by_cases hv : VE ph q r d
 ·have hQ := hv.isQ hq hr
  have hb := hQ.bd
  have hf := flE_bd (P := U ph pl) (S := q * q * r) (d := d) (isU hp hl).nn hb.2.2.1 hv.2.2.2
  simp only [if_pos hv, haE]
  generalize flE (U ph pl) (q * q * r) d = m at hf
  obtain ⟨f, ok⟩ := m
  simp only at hf
  rw [sUp hp hl hq hr hd hv hf.1 hf.2, u64_in (x := f + 1) (by omega) (by omega)]
  cases ok with
  | false => simp
  | true =>
   by_cases hc : 0 ≤ cmpE (2 * U ph pl) (2 * q * (2 * q) * r) d (2 * f + 1)
   ·by_cases hx : f + 1 < 9223372036854775808
    ·have : ¬ f + 1 ≥ 9223372036854775808 := by omega
     simp [hc, hx, this]
    ·have : f + 1 ≥ 9223372036854775808 := by omega
     simp [hc, hx, this]
   ·have : ¬ f ≥ 9223372036854775808 := by omega
    simp [hc, this]
 ·simp [hv]
end Go.Proofs.YtdioaiepkhepaaaGreatDoor
