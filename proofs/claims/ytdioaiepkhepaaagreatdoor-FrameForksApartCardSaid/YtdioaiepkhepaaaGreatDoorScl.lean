/- Scaling a pixel by a mask sample or an opacity: each sample is rounded once. No condition. -/
import Derived.Test.YtdioaiepkhepaaaGreatDoorSm16a
import Derived.Test.YtdioaiepkhepaaaGreatDoorPix
import Derived.Shelf.Spec.TrailingZeros
import Derived.Laws.Bits64b
namespace Go.Proofs.YtdioaiepkhepaaaGreatDoor
set_option maxRecDepth 100000
open Go.RowKit
theorem and255 {p : Int} (h0 : 0 ≤ p) (h1 : p < 4294967296) : bits .and .u32 p 255 = p % 256 := by
 obtain ⟨a, rfl⟩ := Int.eq_ofNat_of_zero_le h0
 have h := bits_and_u32_nat a 255 (by omega) (by omega)
 have e : a &&& 255 = a % 256 := Nat.and_two_pow_sub_one_eq_mod a 8
 rw [e] at h
 exact h.trans (by omega)
theorem and65535 {p : Int} (h0 : 0 ≤ p) (h1 : p < 18446744073709551616) : bits .and .u64 p 65535 = p % 65536 := by
 obtain ⟨a, rfl⟩ := Int.eq_ofNat_of_zero_le h0
 have h := bits_and_u64_nat a 65535 (by omega) (by omega)
 have e : a &&& 65535 = a % 65536 := Nat.and_two_pow_sub_one_eq_mod a 16
 rw [e] at h
 exact h.trans (by omega)
theorem by255_loop : ∀ N : Nat, ∀ p q : Int, p.toNat ≤ N → 0 ≤ p → p ≤ 65025 → 0 ≤ q → q + p ≤ 1000000 → ∃ r s : Int, LF_round_By255_2 [.int .u32 p, .int .u32 q] = [.int .i64 0, .int .u32 r, .int .u32 s] ∧ 0 ≤ r ∧ r ≤ 255 ∧ 255 * s + r = 255 * q + p ∧ 0 ≤ s ∧ s ≤ q + p
 | N, p, q, hN, p0, p1, q0, q1 => by
  rw [LF_round_By255_2_go]
  unfold OUT_round_By255_2
  by_cases h : p > 255
  ·rw [decide_eq_true h, and255 p0 (by omega), show (2 : Int) ^ 8 = 256 from rfl, Int.fdiv_eq_ediv_of_nonneg _ (by decide), IntWalk.u32_in _ ⟨by omega, by omega⟩, IntWalk.u32_in _ ⟨by omega, by omega⟩, cond_true, goOn_next]
   match N, hN with
   | 0, hN => omega
   | N + 1, hN =>
    obtain ⟨r, s, e, h1, h2, h3, h4, h5⟩ := by255_loop N (p / 256 + p % 256) (q + p / 256) (by omega) (by omega) (by omega) (by omega) (by omega)
    exact ⟨r, s, e, h1, h2, by omega, h4, by omega⟩
  ·rw [decide_eq_false h, cond_false]
   exact ⟨p, q, rfl, p0, by omega, rfl, q0, by omega⟩
theorem by65535_loop : ∀ N : Nat, ∀ p q : Int, p.toNat ≤ N → 0 ≤ p → p ≤ 4294836225 → 0 ≤ q → q + p ≤ 100000000000 → ∃ r s : Int, LF_round_By65535_2 [.int .u64 p, .int .u64 q] = [.int .i64 0, .int .u64 r, .int .u64 s] ∧ 0 ≤ r ∧ r ≤ 65535 ∧ 65535 * s + r = 65535 * q + p ∧ 0 ≤ s ∧ s ≤ q + p
 | N, p, q, hN, p0, p1, q0, q1 => by
  rw [LF_round_By65535_2_go]
  unfold OUT_round_By65535_2
  by_cases h : p > 65535
  ·rw [decide_eq_true h, and65535 p0 (by omega), show (2 : Int) ^ 16 = 65536 from rfl, Int.fdiv_eq_ediv_of_nonneg _ (by decide), IntWalk.u64_in _ ⟨by omega, by omega⟩, IntWalk.u64_in _ ⟨by omega, by omega⟩, cond_true, goOn_next]
   match N, hN with
   | 0, hN => omega
   | N + 1, hN =>
    obtain ⟨r, s, e, h1, h2, h3, h4, h5⟩ := by65535_loop N (p / 65536 + p % 65536) (q + p / 65536) (by omega) (by omega) (by omega) (by omega) (by omega)
    exact ⟨r, s, e, h1, h2, by omega, h4, by omega⟩
  ·rw [decide_eq_false h, cond_false]
   exact ⟨p, q, rfl, p0, by omega, rfl, q0, by omega⟩
theorem by255 {x : Int} (h0 : 0 ≤ x) (h1 : x ≤ 65025) : F_round_By255 x = hv x 0 255 := by
 obtain ⟨r, s, e, r0, r1, hs, s0, s1⟩ := by255_loop x.toNat x 0 (Nat.le_refl _) h0 h1 (by decide) (by omega)
 rw [F_round_By255_eq, show pre_round_By255_2 [.int .u32 x, .int .u32 0] = true from rfl, cond_true, e]
 simp only [List.getD_cons_succ, List.getD_cons_zero, num]
 by_cases h : r ≥ 128
 ·rw [decide_eq_true h, cond_true, IntWalk.u32_in _ ⟨by omega, by omega⟩]
  exact (hv_uq (by omega) (by omega)).symm
 ·rw [decide_eq_false h, cond_false]
  exact (hv_uq (by omega) (by omega)).symm
theorem by65535 {x : Int} (h0 : 0 ≤ x) (h1 : x ≤ 4294836225) : F_round_By65535 x = hv x 0 65535 := by
 obtain ⟨r, s, e, r0, r1, hs, s0, s1⟩ := by65535_loop x.toNat x 0 (Nat.le_refl _) h0 h1 (by decide) (by omega)
 rw [F_round_By65535_eq, show pre_round_By65535_2 [.int .u64 x, .int .u64 0] = true from rfl, cond_true, e]
 simp only [List.getD_cons_succ, List.getD_cons_zero, num]
 by_cases h : r ≥ 32768
 ·rw [decide_eq_true h, cond_true, IntWalk.u64_in _ ⟨by omega, by omega⟩]
  exact (hv_uq (by omega) (by omega)).symm
 ·rw [decide_eq_false h, cond_false]
  exact (hv_uq (by omega) (by omega)).symm
def scl (c k m : Int) : Int := hv (c * k) 0 m
theorem scl_bd {c k m : Int} (hm : 1 ≤ m) (c0 : 0 ≤ c) (k0 : 0 ≤ k) (k1 : k ≤ m) : 0 ≤ scl c k m ∧ scl c k m ≤ c := by
 have h := Int.mul_nonneg c0 k0
 exact ⟨hv_nn h (Int.le_refl 0) hm, hv_leN hm (Int.mul_le_mul_of_nonneg_left k1 c0)⟩
theorem scl_mono {c a k m : Int} (hm : 1 ≤ m) (k0 : 0 ≤ k) (h : c ≤ a) : scl c k m ≤ scl a k m := hv_mono0 hm (Int.mul_le_mul_of_nonneg_right h k0)
theorem scl_full {c m : Int} (hm : 1 ≤ m) : scl c m m = c := hv_exact hm
def sclV (c0 c1 c2 a f k m : Int) : Int × Int × Int × Int × Int × Bool := (scl c0 k m, scl c1 k m, scl c2 k m, scl a k m, scl f k m, true)
theorem sclV_pv {c0 c1 c2 a f k m : Int} (hm : 1 ≤ m) (h : PV c0 c1 c2 a f m) (k0 : 0 ≤ k) (k1 : k ≤ m) : PV (scl c0 k m) (scl c1 k m) (scl c2 k m) (scl a k m) (scl f k m) m :=
 ⟨(scl_bd hm h.l0 k0 k1).1, (scl_bd hm h.l1 k0 k1).1, (scl_bd hm h.l2 k0 k1).1, scl_mono hm k0 h.u0, scl_mono hm k0 h.u1, scl_mono hm k0 h.u2, scl_mono hm k0 h.af, Int.le_trans (scl_bd hm (by have := h.l0; have := h.u0; have := h.af; omega) k0 k1).2 h.fm⟩
section
variable {c0 c1 c2 a f k m : Int} (hm : m = 255 ∨ m = 65535) (p : PV c0 c1 c2 a f m) (k0 : 0 ≤ k) (k1 : k ≤ m)
include hm p k0 k1
theorem sclLoop : LF_scale_Pixel_4 [.int .u16 k, .int .u16 m, .int .i64 0, .int .u16 c0, .int .u16 c1, .int .u16 c2, .int .u16 a, .int .u16 f, .int .u16 0, .int .u16 0, .int .u16 0, .int .u16 0, .int .u16 0] = [.int .i64 0, .int .u16 (scl c0 k m), .int .u16 (scl c1 k m), .int .u16 (scl c2 k m), .int .u16 (scl a k m), .int .u16 (scl f k m), .int .u16 0, .int .u16 0, .int .u16 0, .int .u16 0, .int .u16 0] := by
 obtain ⟨l0, l1, l2, u0, u1, u2, af, fm⟩ := p
 have one : ∀ x, 0 ≤ x → x ≤ m → (bif m == 255 then IntKind.u16.wrap (F_round_By255 (IntKind.u32.wrap (x * k))) else IntKind.u16.wrap (F_round_By65535 (IntKind.u32.wrap (x * k)))) = scl x k m := fun x x0 x1 => by
  have y0 := Int.mul_nonneg x0 k0
  have y1 : x * k ≤ m * m := Int.mul_le_mul x1 k1 k0 (by omega)
  have bd := scl_bd (show 1 ≤ m by omega) x0 k0 k1
  rcases hm with rfl | rfl
  ·rw [show ((255 : Int) == 255) = true from rfl, cond_true, IntWalk.u32_in _ ⟨y0, by omega⟩, by255 y0 (by omega)]
   exact u16_in bd.1 (Int.le_trans bd.2 (by omega))
  ·rw [show ((65535 : Int) == 255) = false from rfl, cond_false, IntWalk.u32_in _ ⟨y0, by omega⟩, by65535 y0 (by omega)]
   exact u16_in bd.1 (Int.le_trans bd.2 (by omega))
 have o0 := one c0 l0 (by omega)
 have o1 := one c1 l1 (by omega)
 have o2 := one c2 l2 (by omega)
 have o3 := one a (by omega) (by omega)
 have o4 := one f (by omega) fm
 have w0 : IntKind.i64.wrap (0 + 1) = 1 := by decide
 have w1 : IntKind.i64.wrap (1 + 1) = 2 := by decide
 have w2 : IntKind.i64.wrap (2 + 1) = 3 := by decide
 have w3 : IntKind.i64.wrap (3 + 1) = 4 := by decide
 have w4 : IntKind.i64.wrap (4 + 1) = 5 := by decide
 cases hb : (m == 255)
 all_goals
  simp only [hb, cond_true, cond_false] at o0 o1 o2 o3 o4
  rw [LF_scale_Pixel_4_go]
  unfold OUT_scale_Pixel_4
  simp only [hb, Int.reduceLT, decide_true, Int.reduceBEq, cond_true, cond_false, goOn_next, w0, o0]
  rw [LF_scale_Pixel_4_go]
  unfold OUT_scale_Pixel_4
  simp only [hb, Int.reduceLT, decide_true, Int.reduceBEq, cond_true, cond_false, goOn_next, w1, o1]
  rw [LF_scale_Pixel_4_go]
  unfold OUT_scale_Pixel_4
  simp only [hb, Int.reduceLT, decide_true, Int.reduceBEq, cond_true, cond_false, goOn_next, w2, o2]
  rw [LF_scale_Pixel_4_go]
  unfold OUT_scale_Pixel_4
  simp only [hb, Int.reduceLT, decide_true, Int.reduceBEq, cond_true, cond_false, goOn_next, w3, o3]
  rw [LF_scale_Pixel_4_go]
  unfold OUT_scale_Pixel_4
  simp only [hb, Int.reduceLT, decide_true, Int.reduceBEq, cond_true, cond_false, goOn_next, w4, o4]
  rw [LF_scale_Pixel_4_go]
  unfold OUT_scale_Pixel_4
  rfl
end
theorem pScale {c0 c1 c2 a f k m : Int} (p : P16 c0 c1 c2 a f) (hk : Is16 k) : F_scale_Pixel c0 c1 c2 a f k m = if (m = 255 ∨ m = 65535) ∧ VP c0 c1 c2 a f m ∧ k ≤ m then sclV c0 c1 c2 a f k m else (0, 0, 0, 0, 0, false) := by
 rw [F_scale_Pixel_eq]
 have pre : pre_scale_Pixel_4 [.int .u16 k, .int .u16 m, .int .i64 0, .int .u16 c0, .int .u16 c1, .int .u16 c2, .int .u16 a, .int .u16 f, .int .u16 0, .int .u16 0, .int .u16 0, .int .u16 0, .int .u16 0] = true := rfl
 simp only [pre, cond_true, pValid]
 by_cases hm : m = 255 ∨ m = 65535
 ·by_cases hv : VP c0 c1 c2 a f m
  ·by_cases hk1 : k ≤ m
   ·rw [if_pos ⟨hm, hv, hk1⟩, sclLoop hm (p.pv hv) hk.1 hk1]
    simp only [decide_eq_true hv, decide_eq_false (show ¬ k > m by omega), Bool.not_true, cond_false]
    rcases hm with rfl | rfl <;> rfl
   ·rw [if_neg (fun h => hk1 h.2.2)]
    simp only [decide_eq_true hv, decide_eq_true (show k > m by omega), Bool.not_true, cond_false, cond_true]
    rcases hm with rfl | rfl <;> rfl
  ·rw [if_neg (fun h => hv h.2.1)]
   simp only [decide_eq_false hv, Bool.not_false, cond_true]
   rcases hm with rfl | rfl <;> rfl
 ·rw [if_neg (fun h => hm h.1)]
  have h1 : m ≠ 255 := fun h => hm (.inl h)
  have h2 : m ≠ 65535 := fun h => hm (.inr h)
  simp only [bne, beq_false_of_ne h1, beq_false_of_ne h2, Bool.not_false, cond_true]
end Go.Proofs.YtdioaiepkhepaaaGreatDoor
