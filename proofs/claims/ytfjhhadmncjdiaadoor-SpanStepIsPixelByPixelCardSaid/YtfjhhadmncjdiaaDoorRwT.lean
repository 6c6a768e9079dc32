/- Scaling, rows of steps and results, in closed form. No condition. -/
import Derived.Test.YtfjhhadmncjdiaaDoorSm16a
import Derived.Test.YtfjhhadmncjdiaaDoorPix
import Derived.Shelf.Spec.TrailingZeros
import Derived.Laws.Bits64b
import Derived.Test.YtfjhhadmncjdiaaDoorRwM
import Derived.Test.YtfjhhadmncjdiaaDoorGrp

/- Scaling a pixel by a mask sample or an opacity: each sample is rounded once. No condition. -/
namespace Go.Proofs.YtfjhhadmncjdiaaDoor
set_option maxRecDepth 100000
open Go.RowKit

theorem and255 {p : Int} (h0 : 0 ≤ p) (h1 : p < 4294967296) : bits .and .u32 p 255 = p % 256 := by
  obtain ⟨a, rfl⟩ := Int.eq_ofNat_of_zero_le h0
  have h := bits_and_u32_nat a 255 (by omega) (by omega)
  have e : a &&& 255 = a % 256 := Nat.and_two_pow_sub_one_eq_mod a 8
  rw [e] at h
  exact h.trans (by omega)
theorem and65535 {p : Int} (h0 : 0 ≤ p) (h1 : p < 18446744073709551616) : bits .and .u64 p 65535 = p % 65536 := by
  obtain ⟨a, rfl⟩ := Int.eq_ofNat_of_zero_le h0
  have h := bits_and_u64_nat a 65535 (by omega) (by omega)
  have e : a &&& 65535 = a % 65536 := Nat.and_two_pow_sub_one_eq_mod a 16
  rw [e] at h
  exact h.trans (by omega)
theorem by255_loop : ∀ N : Nat, ∀ p q : Int, p.toNat ≤ N → 0 ≤ p → p ≤ 65025 → 0 ≤ q → q + p ≤ 1000000 → ∃ r s : Int, LF_round_By255_2 [.int .u32 p, .int .u32 q] = [.int .i64 0, .int .u32 r, .int .u32 s] ∧ 0 ≤ r ∧ r ≤ 255 ∧ 255 * s + r = 255 * q + p ∧ 0 ≤ s ∧ s ≤ q + p
  | N, p, q, hN, p0, p1, q0, q1 => by
    rw [LF_round_By255_2_go]
    unfold OUT_round_By255_2
    by_cases h : p > 255
    · rw [decide_eq_true h, and255 p0 (by omega), show (2 : Int) ^ 8 = 256 from rfl, Int.fdiv_eq_ediv_of_nonneg _ (by decide), IntWalk.u32_in _ ⟨by omega, by omega⟩, IntWalk.u32_in _ ⟨by omega, by omega⟩, cond_true, goOn_next]
      match N, hN with
      | 0, hN => omega
      | N + 1, hN =>
        obtain ⟨r, s, e, h1, h2, h3, h4, h5⟩ := by255_loop N (p / 256 + p % 256) (q + p / 256) (by omega) (by omega) (by omega) (by omega) (by omega)
        exact ⟨r, s, e, h1, h2, by omega, h4, by omega⟩
    · rw [decide_eq_false h, cond_false]
      exact ⟨p, q, rfl, p0, by omega, rfl, q0, by omega⟩
theorem by65535_loop : ∀ N : Nat, ∀ p q : Int, p.toNat ≤ N → 0 ≤ p → p ≤ 4294836225 → 0 ≤ q → q + p ≤ 100000000000 → ∃ r s : Int, LF_round_By65535_2 [.int .u64 p, .int .u64 q] = [.int .i64 0, .int .u64 r, .int .u64 s] ∧ 0 ≤ r ∧ r ≤ 65535 ∧ 65535 * s + r = 65535 * q + p ∧ 0 ≤ s ∧ s ≤ q + p
  | N, p, q, hN, p0, p1, q0, q1 => by
    rw [LF_round_By65535_2_go]
    unfold OUT_round_By65535_2
    by_cases h : p > 65535
    · rw [decide_eq_true h, and65535 p0 (by omega), show (2 : Int) ^ 16 = 65536 from rfl, Int.fdiv_eq_ediv_of_nonneg _ (by decide), IntWalk.u64_in _ ⟨by omega, by omega⟩, IntWalk.u64_in _ ⟨by omega, by omega⟩, cond_true, goOn_next]
      match N, hN with
      | 0, hN => omega
      | N + 1, hN =>
        obtain ⟨r, s, e, h1, h2, h3, h4, h5⟩ := by65535_loop N (p / 65536 + p % 65536) (q + p / 65536) (by omega) (by omega) (by omega) (by omega) (by omega)
        exact ⟨r, s, e, h1, h2, by omega, h4, by omega⟩
    · rw [decide_eq_false h, cond_false]
      exact ⟨p, q, rfl, p0, by omega, rfl, q0, by omega⟩
theorem by255 {x : Int} (h0 : 0 ≤ x) (h1 : x ≤ 65025) : F_round_By255 x = hv x 0 255 := by
  obtain ⟨r, s, e, r0, r1, hs, s0, s1⟩ := by255_loop x.toNat x 0 (Nat.le_refl _) h0 h1 (by decide) (by omega)
  rw [F_round_By255_eq, show pre_round_By255_2 [.int .u32 x, .int .u32 0] = true from rfl, cond_true, e]
  simp only [List.getD_cons_succ, List.getD_cons_zero, num]
  by_cases h : r ≥ 128
  · rw [decide_eq_true h, cond_true, IntWalk.u32_in _ ⟨by omega, by omega⟩]
    exact (hv_uq (by omega) (by omega)).symm
  · rw [decide_eq_false h, cond_false]
    exact (hv_uq (by omega) (by omega)).symm
theorem by65535 {x : Int} (h0 : 0 ≤ x) (h1 : x ≤ 4294836225) : F_round_By65535 x = hv x 0 65535 := by
  obtain ⟨r, s, e, r0, r1, hs, s0, s1⟩ := by65535_loop x.toNat x 0 (Nat.le_refl _) h0 h1 (by decide) (by omega)
  rw [F_round_By65535_eq, show pre_round_By65535_2 [.int .u64 x, .int .u64 0] = true from rfl, cond_true, e]
  simp only [List.getD_cons_succ, List.getD_cons_zero, num]
  by_cases h : r ≥ 32768
  · rw [decide_eq_true h, cond_true, IntWalk.u64_in _ ⟨by omega, by omega⟩]
    exact (hv_uq (by omega) (by omega)).symm
  · rw [decide_eq_false h, cond_false]
    exact (hv_uq (by omega) (by omega)).symm
/-- One sample scaled. -/
def scl (c k m : Int) : Int := hv (c * k) 0 m
theorem scl_bd {c k m : Int} (hm : 1 ≤ m) (c0 : 0 ≤ c) (k0 : 0 ≤ k) (k1 : k ≤ m) : 0 ≤ scl c k m ∧ scl c k m ≤ c := by
  have h := Int.mul_nonneg c0 k0
  exact ⟨hv_nn h (Int.le_refl 0) hm, hv_leN hm (Int.mul_le_mul_of_nonneg_left k1 c0)⟩
theorem scl_mono {c a k m : Int} (hm : 1 ≤ m) (k0 : 0 ≤ k) (h : c ≤ a) : scl c k m ≤ scl a k m := hv_mono0 hm (Int.mul_le_mul_of_nonneg_right h k0)
theorem scl_full {c m : Int} (hm : 1 ≤ m) : scl c m m = c := hv_exact hm
def sclV (c0 c1 c2 a f k m : Int) : Int × Int × Int × Int × Int × Bool := (scl c0 k m, scl c1 k m, scl c2 k m, scl a k m, scl f k m, true)
theorem sclV_pv {c0 c1 c2 a f k m : Int} (hm : 1 ≤ m) (h : PV c0 c1 c2 a f m) (k0 : 0 ≤ k) (k1 : k ≤ m) : PV (scl c0 k m) (scl c1 k m) (scl c2 k m) (scl a k m) (scl f k m) m :=
  ⟨(scl_bd hm h.l0 k0 k1).1, (scl_bd hm h.l1 k0 k1).1, (scl_bd hm h.l2 k0 k1).1, scl_mono hm k0 h.u0, scl_mono hm k0 h.u1, scl_mono hm k0 h.u2, scl_mono hm k0 h.af, Int.le_trans (scl_bd hm (by have := h.l0; have := h.u0; have := h.af; omega) k0 k1).2 h.fm⟩
section
variable {c0 c1 c2 a f k m : Int} (hm : m = 255 ∨ m = 65535) (p : PV c0 c1 c2 a f m) (k0 : 0 ≤ k) (k1 : k ≤ m)
include hm p k0 k1
theorem sclLoop : LF_scale_Pixel_4 [.int .u16 k, .int .u16 m, .int .i64 0, .int .u16 c0, .int .u16 c1, .int .u16 c2, .int .u16 a, .int .u16 f, .int .u16 0, .int .u16 0, .int .u16 0, .int .u16 0, .int .u16 0] = [.int .i64 0, .int .u16 (scl c0 k m), .int .u16 (scl c1 k m), .int .u16 (scl c2 k m), .int .u16 (scl a k m), .int .u16 (scl f k m), .int .u16 0, .int .u16 0, .int .u16 0, .int .u16 0, .int .u16 0] := by
  obtain ⟨l0, l1, l2, u0, u1, u2, af, fm⟩ := p
  have one : ∀ x, 0 ≤ x → x ≤ m → (bif m == 255 then IntKind.u16.wrap (F_round_By255 (IntKind.u32.wrap (x * k))) else IntKind.u16.wrap (F_round_By65535 (IntKind.u32.wrap (x * k)))) = scl x k m := fun x x0 x1 => by
    have y0 := Int.mul_nonneg x0 k0
    have y1 : x * k ≤ m * m := Int.mul_le_mul x1 k1 k0 (by omega)
    have bd := scl_bd (show 1 ≤ m by omega) x0 k0 k1
    rcases hm with rfl | rfl
    · rw [show ((255 : Int) == 255) = true from rfl, cond_true, IntWalk.u32_in _ ⟨y0, by omega⟩, by255 y0 (by omega)]
      exact u16_in bd.1 (Int.le_trans bd.2 (by omega))
    · rw [show ((65535 : Int) == 255) = false from rfl, cond_false, IntWalk.u32_in _ ⟨y0, by omega⟩, by65535 y0 (by omega)]
      exact u16_in bd.1 (Int.le_trans bd.2 (by omega))
  have o0 := one c0 l0 (by omega)
  have o1 := one c1 l1 (by omega)
  have o2 := one c2 l2 (by omega)
  have o3 := one a (by omega) (by omega)
  have o4 := one f (by omega) fm
  have w0 : IntKind.i64.wrap (0 + 1) = 1 := by decide
  have w1 : IntKind.i64.wrap (1 + 1) = 2 := by decide
  have w2 : IntKind.i64.wrap (2 + 1) = 3 := by decide
  have w3 : IntKind.i64.wrap (3 + 1) = 4 := by decide
  have w4 : IntKind.i64.wrap (4 + 1) = 5 := by decide
  cases hb : (m == 255)
  all_goals
    simp only [hb, cond_true, cond_false] at o0 o1 o2 o3 o4
    rw [LF_scale_Pixel_4_go]
    unfold OUT_scale_Pixel_4
    simp only [hb, Int.reduceLT, decide_true, Int.reduceBEq, cond_true, cond_false, goOn_next, w0, o0]
    rw [LF_scale_Pixel_4_go]
    unfold OUT_scale_Pixel_4
    simp only [hb, Int.reduceLT, decide_true, Int.reduceBEq, cond_true, cond_false, goOn_next, w1, o1]
    rw [LF_scale_Pixel_4_go]
    unfold OUT_scale_Pixel_4
    simp only [hb, Int.reduceLT, decide_true, Int.reduceBEq, cond_true, cond_false, goOn_next, w2, o2]
    rw [LF_scale_Pixel_4_go]
    unfold OUT_scale_Pixel_4
    simp only [hb, Int.reduceLT, decide_true, Int.reduceBEq, cond_true, cond_false, goOn_next, w3, o3]
    rw [LF_scale_Pixel_4_go]
    unfold OUT_scale_Pixel_4
    simp only [hb, Int.reduceLT, decide_true, Int.reduceBEq, cond_true, cond_false, goOn_next, w4, o4]
    rw [LF_scale_Pixel_4_go]
    unfold OUT_scale_Pixel_4
    rfl
end
theorem pScale {c0 c1 c2 a f k m : Int} (p : P16 c0 c1 c2 a f) (hk : Is16 k) : F_scale_Pixel c0 c1 c2 a f k m = if (m = 255 ∨ m = 65535) ∧ VP c0 c1 c2 a f m ∧ k ≤ m then sclV c0 c1 c2 a f k m else (0, 0, 0, 0, 0, false) := by
  rw [F_scale_Pixel_eq]
  have pre : pre_scale_Pixel_4 [.int .u16 k, .int .u16 m, .int .i64 0, .int .u16 c0, .int .u16 c1, .int .u16 c2, .int .u16 a, .int .u16 f, .int .u16 0, .int .u16 0, .int .u16 0, .int .u16 0, .int .u16 0] = true := rfl
  simp only [pre, cond_true, pValid]
  by_cases hm : m = 255 ∨ m = 65535
  · by_cases hv : VP c0 c1 c2 a f m
    · by_cases hk1 : k ≤ m
      · rw [if_pos ⟨hm, hv, hk1⟩, sclLoop hm (p.pv hv) hk.1 hk1]
        simp only [decide_eq_true hv, decide_eq_false (show ¬ k > m by omega), Bool.not_true, cond_false]
        rcases hm with rfl | rfl <;> rfl
      · rw [if_neg (fun h => hk1 h.2.2)]
        simp only [decide_eq_true hv, decide_eq_true (show k > m by omega), Bool.not_true, cond_false, cond_true]
        rcases hm with rfl | rfl <;> rfl
    · rw [if_neg (fun h => hv h.2.1)]
      simp only [decide_eq_false hv, Bool.not_false, cond_true]
      rcases hm with rfl | rfl <;> rfl
  · rw [if_neg (fun h => hm h.1)]
    have h1 : m ≠ 255 := fun h => hm (.inl h)
    have h2 : m ≠ 65535 := fun h => hm (.inr h)
    simp only [bne, beq_false_of_ne h1, beq_false_of_ne h2, Bool.not_false, cond_true]
theorem pBothV {c0 c1 c2 a f k o m : Int} (hm : m = 255 ∨ m = 65535) (p : PV c0 c1 c2 a f m) (k0 : 0 ≤ k) (k1 : k ≤ m) (o0 : 0 ≤ o) (o1 : o ≤ m) : F_scale_Both c0 c1 c2 a f k o m = sclV (scl c0 k m) (scl c1 k m) (scl c2 k m) (scl a k m) (scl f k m) o m := by
  have m1 : m ≤ 65535 := by omega
  have q := sclV_pv (show 1 ≤ m by omega) p k0 k1
  rw [F_scale_Both_eq, pScale (p.p16 m1) ⟨k0, by omega⟩, if_pos ⟨hm, p.vp, k1⟩]
  simp only [sclV, Bool.not_true, cond_false]
  rw [pScale (q.p16 m1) ⟨o0, by omega⟩, if_pos ⟨hm, q.vp, o1⟩]
  rfl
end Go.Proofs.YtfjhhadmncjdiaaDoor

/- Rows of pixels: scaled rows, rows of steps and of results, in closed form. No condition. -/
namespace Go.Proofs.YtfjhhadmncjdiaaDoor
set_option maxRecDepth 100000
open Go.RowKit

noncomputable def sclAt (l k : Value) (o m : Int) (j : Int) : Int × Int × Int × Int × Int × Bool := F_scale_Both (C1 (IX l j)) (C2 (IX l j)) (C3 (IX l j)) (C4 (IX l j)) (C5 (IX l j)) (bif decide (LN k > 0) then C1 (IX k j) else m) o m
section
variable {l k : Value} (hk : LN k = 0 ∨ LN k = LN l) (hb : LN l ≤ 1000) (o m : Int)
include hk hb
theorem scale_loop : ∀ i, 0 ≤ i → i ≤ LN l → LF_span_Scale_5 [k, .int .u16 o, .int .u16 m, l, .int .i64 (LN l), .int .i64 i, bld (fun j => pk6 (sclAt l k o m j)) 0 i NILV] =
      bif allI (fun j => (sclAt l k o m j).2.2.2.2.2) i (LN l) then [.int .i64 1, bld (fun j => pk6 (sclAt l k o m j)) 0 (LN l) NILV] else [.int .i64 0, .bool false, NILV] :=
  up_to (fun i h0 h1 ih => by
    rw [LF_span_Scale_5_go]
    unfold OUT_span_Scale_5
    have ro : ∀ cs, RO 10 (SN (bld (fun j => pk6 (sclAt l k o m j)) 0 i NILV) cs) = true := fun cs => RO_of (n := 1001) (by rw [LN_SN, LN_bld0 h0]; omega) (by decide) (by decide)
    have w1 : IntKind.i64.wrap (i + 1) = i + 1 := i64_in (by omega) (by omega)
    have s0 : INB l i = true := INB_of h0 h1
    have main : goOn LF_span_Scale_5 (bif !(sclAt l k o m i).2.2.2.2.2 then [.int .i64 0, .bool false, NILV] else [.int .i64 (-1), k, .int .u16 o, .int .u16 m, l, .int .i64 (LN l), .int .i64 (i + 1), SN (bld (fun j => pk6 (sclAt l k o m j)) 0 i NILV) (pk6 (sclAt l k o m i))]) =
        bif allI (fun j => (sclAt l k o m j).2.2.2.2.2) i (LN l) then [.int .i64 1, bld (fun j => pk6 (sclAt l k o m j)) 0 (LN l) NILV] else [.int .i64 0, .bool false, NILV] := by
      cases hc : (sclAt l k o m i).2.2.2.2.2
      · simp only [Bool.not_false, cond_true, allI_step h1, hc, Bool.false_and, cond_false]
        rfl
      · simp only [Bool.not_true, cond_false, goOn_next, bld_snoc (g := fun j => pk6 (sclAt l k o m j)) h0, ih, allI_step h1, hc, Bool.true_and]
    simp only [w1, s0, ro, decide_eq_true h1, cond_true]
    by_cases hL : LN k > 0
    · have k0 : INB k i = true := INB_of h0 (by omega)
      simp only [decide_eq_true hL, k0, cond_true]
      unfold sclAt at main ⊢
      simp only [decide_eq_true hL, cond_true] at main ⊢
      exact main
    · simp only [decide_eq_false hL, cond_false]
      unfold sclAt at main ⊢
      simp only [decide_eq_false hL, cond_false] at main ⊢
      exact main) (by
    rw [LF_span_Scale_5_go]
    unfold OUT_span_Scale_5
    rw [decide_eq_false (by omega), allI_end (Int.le_refl _)]
    rfl)
theorem spanS : F_span_Scale l k o m = bif allI (fun j => (sclAt l k o m j).2.2.2.2.2) 0 (LN l) then (bld (fun j => pk6 (sclAt l k o m j)) 0 (LN l) NILV, true) else (NILV, false) := by
  have h0 := LN_nonneg l
  have p : pre_span_Scale_5 [k, .int .u16 o, .int .u16 m, l, .int .i64 (LN l), .int .i64 0, NILV] = true := by
    show (decide (LN l = LN l) && decide (LN k = 0 ∨ LN k = LN l) && decide ((0 : Int) ≤ 0) && decide (0 ≤ LN l) && decide (LN NILV = 0) && decide (LN l ≤ 1000)) = true
    simp only [Bool.and_eq_true, decide_eq_true_eq]
    exact ⟨⟨⟨⟨⟨trivial, hk⟩, Int.le_refl 0⟩, h0⟩, LN_nil⟩, hb⟩
  have q := scale_loop hk hb o m 0 (Int.le_refl 0) h0
  rw [show bld (fun j => pk6 (sclAt l k o m j)) 0 0 NILV = NILV from rfl] at q
  rw [F_span_Scale_eq, p, cond_true, q]
  by_cases hz : LN k = 0
  · rw [hz]
    simp only [bne_self_eq_false, cond_false]
    cases allI (fun j => (sclAt l k o m j).2.2.2.2.2) 0 (LN l) <;> rfl
  · have e : LN k = LN l := by omega
    have hz' : (LN k != 0) = true := by simpa using hz
    rw [hz', e]
    simp only [bne_self_eq_false, cond_false, cond_true]
    cases allI (fun j => (sclAt l k o m j).2.2.2.2.2) 0 (LN l) <;> rfl
end
theorem spanS_rej {l k : Value} (h1 : LN k ≠ 0) (h2 : LN k ≠ LN l) (o m : Int) : F_span_Scale l k o m = (NILV, false) := by
  have e1 : (LN k != 0) = true := by simpa using h1
  have e2 : (LN k != LN l) = true := by simpa using h2
  rw [F_span_Scale_eq, e1, e2]
  rfl
/-- A valid row, samples up to m: every pixel is scaled. -/
theorem sclAt_ok {l k : Value} {o m : Int} (hm : m = 255 ∨ m = 65535) (hl : VR m l) (hk : MR m k) (hk' : LN k = 0 ∨ LN k = LN l) (o0 : 0 ≤ o) (o1 : o ≤ m) {j : Int} (h0 : 0 ≤ j) (h1 : j < LN l) : (sclAt l k o m j).2.2.2.2.2 = true := by
  have p := hl.2 j h0 h1
  unfold sclAt
  by_cases hL : LN k > 0
  · have q := hk.2 j h0 (by omega)
    rw [decide_eq_true hL, cond_true, pBothV hm p q.1 q.2 o0 o1]
    rfl
  · rw [decide_eq_false hL, cond_false, pBothV hm p (by omega) (Int.le_refl m) o0 o1]
    rfl

/-! Results -/
noncomputable def resAt (a b : Value) (m : Int) (j : Int) : Int × Int × Int × Int × Int × Bool := F_group_Result (C1 (IX a j)) (C2 (IX a j)) (C3 (IX a j)) (C4 (IX a j)) (C5 (IX a j)) (C6 (IX a j)) (C1 (IX b j)) (C2 (IX b j)) (C3 (IX b j)) (C4 (IX b j)) (C5 (IX b j)) m
section
variable {a b : Value} (hn : LN b = LN a) (hb : LN a ≤ 1000) (m : Int)
include hn hb
theorem result_loop : ∀ i, 0 ≤ i → i ≤ LN a → LF_span_Result_5 [a, b, .int .u16 m, .int .i64 (LN a), .int .i64 i, bld (fun j => pk6 (resAt a b m j)) 0 i NILV] =
      bif allI (fun j => (resAt a b m j).2.2.2.2.2) i (LN a) then [.int .i64 1, bld (fun j => pk6 (resAt a b m j)) 0 (LN a) NILV] else [.int .i64 0, .bool false, NILV] :=
  up_to (fun i h0 h1 ih => by
    rw [LF_span_Result_5_go]
    unfold OUT_span_Result_5
    have ro : ∀ cs, RO 10 (SN (bld (fun j => pk6 (resAt a b m j)) 0 i NILV) cs) = true := fun cs => RO_of (n := 1001) (by rw [LN_SN, LN_bld0 h0]; omega) (by decide) (by decide)
    have w1 : IntKind.i64.wrap (i + 1) = i + 1 := i64_in (by omega) (by omega)
    simp only [w1, INB_of h0 h1, INB_of (l := b) h0 (by omega), ro, decide_eq_true h1, cond_true]
    change goOn LF_span_Result_5 (bif !(resAt a b m i).2.2.2.2.2 then [.int .i64 0, .bool false, NILV] else [.int .i64 (-1), a, b, .int .u16 m, .int .i64 (LN a), .int .i64 (i + 1), SN (bld (fun j => pk6 (resAt a b m j)) 0 i NILV) (pk6 (resAt a b m i))]) = _
    cases hc : (resAt a b m i).2.2.2.2.2
    · simp only [Bool.not_false, cond_true, allI_step h1, hc, Bool.false_and, cond_false]
      rfl
    · simp only [Bool.not_true, cond_false, goOn_next, bld_snoc (g := fun j => pk6 (resAt a b m j)) h0, ih, allI_step h1, hc, Bool.true_and]) (by
    rw [LF_span_Result_5_go]
    unfold OUT_span_Result_5
    rw [decide_eq_false (by omega), allI_end (Int.le_refl _)]
    rfl)
theorem spanR : F_span_Result a b m = bif allI (fun j => (resAt a b m j).2.2.2.2.2) 0 (LN a) then (bld (fun j => pk6 (resAt a b m j)) 0 (LN a) NILV, true) else (NILV, false) := by
  have h0 := LN_nonneg a
  have p : pre_span_Result_5 [a, b, .int .u16 m, .int .i64 (LN a), .int .i64 0, NILV] = true := by
    show (decide (LN a = LN a) && decide (LN b = LN a) && decide ((0 : Int) ≤ 0) && decide (0 ≤ LN a) && decide (LN NILV = 0) && decide (LN a ≤ 1000)) = true
    simp only [Bool.and_eq_true, decide_eq_true_eq]
    exact ⟨⟨⟨⟨⟨trivial, hn⟩, Int.le_refl 0⟩, h0⟩, LN_nil⟩, hb⟩
  have q := result_loop hn hb m 0 (Int.le_refl 0) h0
  rw [show bld (fun j => pk6 (resAt a b m j)) 0 0 NILV = NILV from rfl] at q
  rw [F_span_Result_eq, p, cond_true, q, hn, bne_self_eq_false, cond_false]
  cases allI (fun j => (resAt a b m j).2.2.2.2.2) 0 (LN a) <;> rfl
end
theorem spanR_rej {a b : Value} (h : LN a ≠ LN b) (m : Int) : F_span_Result a b m = (NILV, false) := by
  have e1 : (LN a != LN b) = true := by simpa using h
  rw [F_span_Result_eq, e1]
  rfl

/-! Steps -/
def eqA (a b : Value) : Bool := ((C1 a == C1 b) && ((C2 a == C2 b) && (C3 a == C3 b))) && ((C4 a == C4 b) && ((C5 a == C5 b) && (C6 a == C6 b)))
noncomputable def stp (t : Bool) (o k m : Int) (s a b : Value) : Int × Int × Int × Int × Int × Int × Bool := F_group_Step t o k m (C1 s) (C2 s) (C3 s) (C4 s) (C5 s) (C1 a) (C2 a) (C3 a) (C4 a) (C5 a) (C6 a) (C1 b) (C2 b) (C3 b) (C4 b) (C5 b)
def pk7 (x : Int × Int × Int × Int × Int × Int × Bool) : List Value := [.int .u16 x.1, .int .u16 x.2.1, .int .u16 x.2.2.1, .int .u16 x.2.2.2.1, .int .u16 x.2.2.2.2.1, .int .u16 x.2.2.2.2.2.1]
theorem stp_congr {t : Bool} {o k m : Int} {s s' a a' b b' : Value} (h1 : eqP s s' = true) (h2 : eqA a a' = true) (h3 : eqP b b' = true) : stp t o k m s a b = stp t o k m s' a' b' := by
  simp only [eqP, eqA, Bool.and_eq_true, beq_iff_eq] at h1 h2 h3
  simp only [stp, h1, h2, h3]
section
variable {s a b : Value} (hna : LN a = LN s) (hnb : LN b = LN s) (hb : LN s ≤ 1000) (t : Bool) (o k m : Int)
include hna hnb hb
theorem step_loop : ∀ i, 0 ≤ i → i ≤ LN s → allI (fun j => (stp t o k m (IX s j) (IX a j) (IX b j)).2.2.2.2.2.2) 0 i = true →
    LF_span_Step_5 [.bool t, .int .i64 o, .int .i64 k, .int .u16 m, s, a, b, .int .i64 (LN s), .int .i64 i, bld (fun j => pk7 (stp t o k m (IX s j) (IX a j) (IX b j))) 0 i NILV] =
      bif allI (fun j => (stp t o k m (IX s j) (IX a j) (IX b j)).2.2.2.2.2.2) i (LN s) then [.int .i64 1, bld (fun j => pk7 (stp t o k m (IX s j) (IX a j) (IX b j))) 0 (LN s) NILV] else [.int .i64 0, .bool false, NILV] :=
  up_to (fun i h0 h1 ih ha => by
    rw [LF_span_Step_5_go]
    unfold OUT_span_Step_5
    have ro : ∀ cs, RO 12 (SN (bld (fun j => pk7 (stp t o k m (IX s j) (IX a j) (IX b j))) 0 i NILV) cs) = true := fun cs => RO_of (n := 1001) (by rw [LN_SN, LN_bld0 h0]; omega) (by decide) (by decide)
    have w1 : IntKind.i64.wrap (i + 1) = i + 1 := i64_in (by omega) (by omega)
    have w0 : IntKind.i64.wrap (i - 1) = i - 1 := i64_in (by omega) (by omega)
    have nx : (stp t o k m (IX s i) (IX a i) (IX b i)).2.2.2.2.2.2 = true → LF_span_Step_5 [.bool t, .int .i64 o, .int .i64 k, .int .u16 m, s, a, b, .int .i64 (LN s), .int .i64 (i + 1), SN (bld (fun j => pk7 (stp t o k m (IX s j) (IX a j) (IX b j))) 0 i NILV) (pk7 (stp t o k m (IX s i) (IX a i) (IX b i)))] =
        bif allI (fun j => (stp t o k m (IX s j) (IX a j) (IX b j)).2.2.2.2.2.2) i (LN s) then [.int .i64 1, bld (fun j => pk7 (stp t o k m (IX s j) (IX a j) (IX b j))) 0 (LN s) NILV] else [.int .i64 0, .bool false, NILV] := fun hc => by
      rw [bld_snoc (g := fun j => pk7 (stp t o k m (IX s j) (IX a j) (IX b j))) h0, allI_step h1]
      simp only [hc, Bool.true_and]
      refine ih (allI_iff.2 fun j j0 j1 => ?_)
      by_cases e : j = i
      · subst e; exact hc
      · exact allI_iff.1 ha j j0 (by omega)
    have main : goOn LF_span_Step_5 (bif !(stp t o k m (IX s i) (IX a i) (IX b i)).2.2.2.2.2.2 then [.int .i64 0, .bool false, NILV] else [.int .i64 (-1), .bool t, .int .i64 o, .int .i64 k, .int .u16 m, s, a, b, .int .i64 (LN s), .int .i64 (i + 1), SN (bld (fun j => pk7 (stp t o k m (IX s j) (IX a j) (IX b j))) 0 i NILV) (pk7 (stp t o k m (IX s i) (IX a i) (IX b i)))]) =
        bif allI (fun j => (stp t o k m (IX s j) (IX a j) (IX b j)).2.2.2.2.2.2) i (LN s) then [.int .i64 1, bld (fun j => pk7 (stp t o k m (IX s j) (IX a j) (IX b j))) 0 (LN s) NILV] else [.int .i64 0, .bool false, NILV] := by
      cases hc : (stp t o k m (IX s i) (IX a i) (IX b i)).2.2.2.2.2.2
      · simp only [Bool.not_false, cond_true, allI_step h1, hc, Bool.false_and, cond_false]
        rfl
      · simp only [Bool.not_true, cond_false, goOn_next]
        exact nx hc
    simp only [w0, w1, INB_of (l := s) h0 h1, INB_of (l := a) h0 (by omega), INB_of (l := b) h0 (by omega), ro, decide_eq_true h1, cond_true]
    by_cases hi : i > 0
    · have op : INB (bld (fun j => pk7 (stp t o k m (IX s j) (IX a j) (IX b j))) 0 i NILV) (i - 1) = true := INB_of (by omega) (by rw [LN_bld0 h0]; omega)
      simp only [decide_eq_true hi, INB_of (l := s) (show 0 ≤ i - 1 by omega) (by omega), INB_of (l := a) (show 0 ≤ i - 1 by omega) (by omega), INB_of (l := b) (show 0 ≤ i - 1 by omega) (by omega), op, cond_true]
      change goOn _ (bif eqP (IX s i) (IX s (i - 1)) then (bif eqA (IX a i) (IX a (i - 1)) then (bif eqP (IX b i) (IX b (i - 1)) then _ else _) else _) else _) = _
      cases e1 : eqP (IX s i) (IX s (i - 1))
      · exact main
      · cases e2 : eqA (IX a i) (IX a (i - 1))
        · exact main
        · cases e4 : eqP (IX b i) (IX b (i - 1))
          · exact main
          · simp only [cond_true, goOn_next]
            have hc : stp t o k m (IX s i) (IX a i) (IX b i) = stp t o k m (IX s (i - 1)) (IX a (i - 1)) (IX b (i - 1)) := stp_congr e1 e2 e4
            have hk : (stp t o k m (IX s i) (IX a i) (IX b i)).2.2.2.2.2.2 = true := by
              rw [hc]
              exact allI_iff.1 ha (i - 1) (by omega) (by omega)
            have e3 : [Value.int .u16 (num (CV (IX (bld (fun j => pk7 (stp t o k m (IX s j) (IX a j) (IX b j))) 0 i NILV) (i - 1)) 0)), .int .u16 (num (CV (IX (bld (fun j => pk7 (stp t o k m (IX s j) (IX a j) (IX b j))) 0 i NILV) (i - 1)) 1)), .int .u16 (num (CV (IX (bld (fun j => pk7 (stp t o k m (IX s j) (IX a j) (IX b j))) 0 i NILV) (i - 1)) 2)), .int .u16 (num (CV (IX (bld (fun j => pk7 (stp t o k m (IX s j) (IX a j) (IX b j))) 0 i NILV) (i - 1)) 3)), .int .u16 (num (CV (IX (bld (fun j => pk7 (stp t o k m (IX s j) (IX a j) (IX b j))) 0 i NILV) (i - 1)) 4)), .int .u16 (num (CV (IX (bld (fun j => pk7 (stp t o k m (IX s j) (IX a j) (IX b j))) 0 i NILV) (i - 1)) 5))] = pk7 (stp t o k m (IX s i) (IX a i) (IX b i)) := by
              rw [IX_bld0 (by omega) (by omega), hc]
              simp only [pk7, CV_cons, CV_cons0, num_int]
            rw [e3]
            exact nx hk
    · simp only [decide_eq_false hi, cond_false]
      exact main) (fun _ => by
    rw [LF_span_Step_5_go]
    unfold OUT_span_Step_5
    rw [decide_eq_false (by omega), allI_end (Int.le_refl _)]
    rfl)
theorem spanT : F_span_Step t o k m s a b = bif allI (fun j => (stp t o k m (IX s j) (IX a j) (IX b j)).2.2.2.2.2.2) 0 (LN s) then (bld (fun j => pk7 (stp t o k m (IX s j) (IX a j) (IX b j))) 0 (LN s) NILV, true) else (NILV, false) := by
  have h0 := LN_nonneg s
  have p : pre_span_Step_5 [.bool t, .int .i64 o, .int .i64 k, .int .u16 m, s, a, b, .int .i64 (LN s), .int .i64 0, NILV] = true := by
    show (decide (LN s = LN s) && decide (LN a = LN s) && decide (LN b = LN s) && decide ((0 : Int) ≤ 0) && decide (0 ≤ LN s) && decide (LN NILV = 0) && decide (LN s ≤ 1000)) = true
    simp only [Bool.and_eq_true, decide_eq_true_eq]
    exact ⟨⟨⟨⟨⟨⟨trivial, hna⟩, hnb⟩, Int.le_refl 0⟩, h0⟩, LN_nil⟩, hb⟩
  have q := step_loop hna hnb hb t o k m 0 (Int.le_refl 0) h0 (allI_end (Int.le_refl 0))
  rw [show bld (fun j => pk7 (stp t o k m (IX s j) (IX a j) (IX b j))) 0 0 NILV = NILV from rfl] at q
  rw [F_span_Step_eq, p, cond_true, q, hna, hnb, bne_self_eq_false, cond_false, cond_false]
  cases allI (fun j => (stp t o k m (IX s j) (IX a j) (IX b j)).2.2.2.2.2.2) 0 (LN s) <;> rfl
end
theorem spanT_rej {s a b : Value} (h : LN a = LN s) (h' : LN b ≠ LN s) (t : Bool) (o k m : Int) : F_span_Step t o k m s a b = (NILV, false) := by
  have e1 : (LN s != LN b) = true := by simpa using fun h => h' h.symm
  rw [F_span_Step_eq, e1, h, bne_self_eq_false]
  rfl
end Go.Proofs.YtfjhhadmncjdiaaDoor

namespace Go.Proofs.YtfjhhadmncjdiaaDoor
set_option maxRecDepth 100000
open Go.RowKit

/-! Rows of accumulations and of backdrops. -/
theorem kinds_ax {a b c d e f : Int} (h : A16 a b c d e f) : KindsL AX [.int .u16 a, .int .u16 b, .int .u16 c, .int .u16 d, .int .u16 e, .int .u16 f] := by
  simp only [KindsL]
  exact ⟨_, _, rfl, kind_u16 h.c0, _, _, rfl, kind_u16 h.c1, _, _, rfl, kind_u16 h.c2, _, _, rfl, kind_u16 h.a, _, _, rfl, kind_u16 h.own, _, _, rfl, kind_u16 h.f, rfl⟩
def AWe (m : Int) (e : Value) : Prop := AW (C1 e) (C2 e) (C3 e) (C4 e) (C5 e) (C6 e) m
def AR (m : Int) (x : Value) : Prop := inKind (.l AX) x ∧ ∀ j, 0 ≤ j → j < LN x → AWe m (IX x j)
theorem AR.nil {m : Int} : AR m NILV := ⟨kind_nil, fun j h0 h1 => by rw [LN_nil] at h1; omega⟩
theorem AR.snoc {m : Int} {x : Value} (h : AR m x) (hm : m ≤ 65535) {a b c d e f : Int} (p : AW a b c d e f m) (hl : LN x < 9223372036854775807) : AR m (SN x [.int .u16 a, .int .u16 b, .int .u16 c, .int .u16 d, .int .u16 e, .int .u16 f]) := by
  refine ⟨kind_SN h.1 (kinds_ax (p.a16 hm)) hl, fun j h0 h1 => ?_⟩
  rw [LN_SN] at h1
  by_cases e : j = LN x
  · subst e
    rw [IX_SN_last]
    exact p
  · rw [IX_SN_old _ h0 (by omega)]
    exact h.2 j h0 (by omega)
def BR (m : Int) (x : Value) : Prop := VR m x ∧ ∀ j, 0 ≤ j → j < LN x → C5 (IX x j) = C4 (IX x j)
theorem BR.nil {m : Int} : BR m NILV := ⟨VR.nil, fun j h0 h1 => by rw [LN_nil] at h1; omega⟩
theorem BR.snoc {m : Int} {x : Value} (h : BR m x) (hm : m ≤ 65535) {a b c d e : Int} (p : PV a b c d d m) (he : e = d) (hl : LN x < 9223372036854775807) : BR m (SN x [.int .u16 a, .int .u16 b, .int .u16 c, .int .u16 d, .int .u16 e]) := by
  subst he
  refine ⟨h.1.snoc hm p hl, fun j h0 h1 => ?_⟩
  rw [LN_SN] at h1
  by_cases e : j = LN x
  · subst e
    rw [IX_SN_last]
    rfl
  · rw [IX_SN_old _ h0 (by omega)]
    exact h.2 j h0 (by omega)
theorem stp_ok {t : Bool} {o k m : Int} (hm : m = 255 ∨ m = 65535) (ho : 1 ≤ o ∧ o ≤ 12) (hk : 1 ≤ k ∧ k ≤ 12) (ht : t = true → o = 4) {s a b : Value} (hs : PVe m s) (ha : AWe m a) (hb : PVe m b) (hb' : C5 b = C4 b) : (stp t o k m s a b).2.2.2.2.2.2 = true := by
  have m1 : Is16 m := ⟨by omega, by omega⟩
  have pb : PV (C1 b) (C2 b) (C3 b) (C4 b) (C4 b) m := by have := hb; unfold PVe at this; rwa [hb'] at this
  unfold stp
  rw [pStep m1 (hs.p16 m1.2) (ha.a16 m1.2) (hb.p16 m1.2), if_pos ⟨ho, hk, by rw [hb']; exact ha.av hm pb, hs.vp, ht⟩]
  unfold stepZ
  cases t <;> rfl
theorem res_ok {m : Int} (hm : m = 255 ∨ m = 65535) {a b : Value} {j : Int} (ha : AWe m (IX a j)) (hb : PVe m (IX b j)) (hb' : C5 (IX b j) = C4 (IX b j)) : (resAt a b m j).2.2.2.2.2 = true := by
  have m1 : Is16 m := ⟨by omega, by omega⟩
  have pb : PV (C1 (IX b j)) (C2 (IX b j)) (C3 (IX b j)) (C4 (IX b j)) (C4 (IX b j)) m := by have := hb; unfold PVe at this; rwa [hb'] at this
  unfold resAt
  rw [pResult m1 (ha.a16 m1.2) (hb.p16 m1.2), if_pos (by rw [hb']; exact ha.av hm pb)]
  rfl
theorem kind_LSV1 {a b c d e : Int} (h : P16 a b c d e) : inKind (.l PX) (LSV 5 1 [.int .u16 a, .int .u16 b, .int .u16 c, .int .u16 d, .int .u16 e]) := by
  simp only [inKind]
  exact ⟨[.agg [.int .u16 a, .int .u16 b, .int .u16 c, .int .u16 d, .int .u16 e].toArray], rfl, by simp, fun x hx => ⟨_, by simpa using hx, kinds_px h⟩⟩
theorem pxo : P16 0 0 0 255 255 := ⟨⟨by decide, by decide⟩, ⟨by decide, by decide⟩, ⟨by decide, by decide⟩, ⟨by decide, by decide⟩, ⟨by decide, by decide⟩⟩
theorem pxz : P16 0 0 0 0 0 := ⟨⟨by decide, by decide⟩, ⟨by decide, by decide⟩, ⟨by decide, by decide⟩, ⟨by decide, by decide⟩, ⟨by decide, by decide⟩⟩
theorem awake16 : F_law16_awake = true := by
  have kd : inKind (.l PX) (LSV 5 2 [.int .u16 0, .int .u16 0, .int .u16 0, .int .u16 255, .int .u16 255, .int .u16 0, .int .u16 0, .int .u16 0, .int .u16 255, .int .u16 255]) := by
    simp only [inKind]
    exact ⟨[.agg [.int .u16 0, .int .u16 0, .int .u16 0, .int .u16 255, .int .u16 255].toArray, .agg [.int .u16 0, .int .u16 0, .int .u16 0, .int .u16 255, .int .u16 255].toArray], rfl, by simp, fun x hx => ⟨_, by simpa using hx, kinds_px pxo⟩⟩
  have c1 : F_span_Classify (LSV 5 2 [.int .u16 0, .int .u16 0, .int .u16 0, .int .u16 255, .int .u16 255, .int .u16 0, .int .u16 0, .int .u16 0, .int .u16 255, .int .u16 255]) 255 = 2 := by
    rw [pCls kd]
    rfl
  have c2 : F_span_Classify NILV 255 = 1 := by
    rw [pCls kind_nil]
    rfl
  have o : PV 0 0 0 255 255 255 := pxo.pv (by decide)
  have z : PV 0 0 0 0 0 255 := PV.zero (by decide)
  have cm : F_pixel_Composite 4 1 255 0 0 0 255 255 0 0 0 0 0 = (0, 0, 0, 255, 255, true) := by
    rw [compV (by decide) (by decide) (by decide) o z]
    unfold compZ
    rw [over_c (by decide), over_a (by decide), over_f (by decide), ov_full (by decide), ov_full (by decide)]
  have sp := spanC (kind_LSV1 pxo) (kind_LSV1 pxz) rfl (by decide) 4 1 255
  have e : (allI (fun j => (cmp2 4 1 255 (IX (LSV 5 1 [.int .u16 0, .int .u16 0, .int .u16 0, .int .u16 255, .int .u16 255]) j) (IX (LSV 5 1 [.int .u16 0, .int .u16 0, .int .u16 0, .int .u16 0, .int .u16 0]) j)).2.2.2.2.2) 0 (LN (LSV 5 1 [.int .u16 0, .int .u16 0, .int .u16 0, .int .u16 255, .int .u16 255]))) = true := by
    refine allI_iff.2 fun j h0 h1 => ?_
    have : j < 1 := h1
    obtain rfl : j = 0 := by omega
    exact (congrArg (fun x : Int × Int × Int × Int × Int × Bool => x.2.2.2.2.2) cm)
  rw [e, cond_true] at sp
  have hp : pre_span_Composite [.int .i64 4, .int .i64 1, .int .u16 255, (LSV 5 1 [.int .u16 0, .int .u16 0, .int .u16 0, .int .u16 255, .int .u16 255]), (LSV 5 1 [.int .u16 0, .int .u16 0, .int .u16 0, .int .u16 0, .int .u16 0])] = true := rfl
  rw [F_law16_awake_eq, hp, c1, c2, sp]
  have hx : (bld (fun j => pk6 (cmp2 4 1 255 (IX (LSV 5 1 [.int .u16 0, .int .u16 0, .int .u16 0, .int .u16 255, .int .u16 255]) j) (IX (LSV 5 1 [.int .u16 0, .int .u16 0, .int .u16 0, .int .u16 0, .int .u16 0]) j))) 0 (LN (LSV 5 1 [.int .u16 0, .int .u16 0, .int .u16 0, .int .u16 255, .int .u16 255])) NILV) = .agg #[.agg (pk6 (0, 0, 0, 255, 255, true)).toArray] :=
    congrArg (fun x : Int × Int × Int × Int × Int × Bool => Value.agg #[.agg (pk6 x).toArray]) cm
  rw [hx]
  rfl

end Go.Proofs.YtfjhhadmncjdiaaDoor
