/- Walks: math/bits.Div64 with a high word of 0; wide.MulSmall, DivMod, Half. -/
import Derived.Test.YtdioaiepkhepaaaGreatDoorDiv
import Derived.Test.YtdioaiepkhepaaaGreatDoorWideAB
namespace Go.Proofs.YtdioaiepkhepaaaGreatDoor
set_option maxRecDepth 100000
open Go.RowKit
theorem div64_zero (l y : Int) (h1 : 0 < y) (l0 : 0 ≤ l) (l1 : l < 18446744073709551616) (y1 : y < 18446744073709551616) (w : World) :
 Calls Tryz.prog 126 #[.int .u64 0, .int .u64 l, .int .u64 y] w (RetQR l y w) := by
 have hy0 : (y == 0) = false := by rw [beq_eq_false_iff_ne]; omega
 have hyl : decide (y ≤ 0) = false := by rw [decide_eq_false_iff_not]; omega
 go_enter Tryz.func126, Tryz.ntmps126
 go_wp2
 go_quiet (fail)
 go_wp2
 go_ret2
 have e := Int.emod_add_mul_ediv l y
 have b0 := Int.emod_nonneg l (show y ≠ 0 by omega)
 have b1 := Int.emod_lt_of_pos l h1
 have b2 : 0 ≤ l / y := Int.ediv_nonneg l0 (by omega)
 have b3 : l / y ≤ l := Int.ediv_le_self _ l0
 rw [Int.mul_comm] at e
 exact ⟨_, _, rfl, by omega, b0, b1, b2, by omega, _, rfl⟩
theorem div64 (h l y : Int) (h0 : 0 ≤ h) (h1 : h < y) (l0 : 0 ≤ l) (l1 : l < 18446744073709551616) (y1 : y < 18446744073709551616) (w : World) :
 Calls Tryz.prog 126 #[.int .u64 h, .int .u64 l, .int .u64 y] w (RetQR (h * 18446744073709551616 + l) y w) := by
 by_cases hh : h = 0
 ·subst hh
  have e : (0 : Int) * 18446744073709551616 + l = l := by omega
  rw [e]
  exact div64_zero l y h1 l0 l1 y1 w
 ·exact div64_pos h l y (by omega) h1 l0 l1 y1 w
theorem mulS_split {ah al A k : Int} (ha : IsU ah al A) : A * k = ah * k * 18446744073709551616 + al * k := by
 rw [← ha.eq, Int.add_mul, Int.mul_right_comm]
theorem wMulSmall_fit (ah al A k : Int) (ha : IsU ah al A) (hk : IsW k) (hfit : A * k < 340282366920938463463374607431768211456) (w : World) :
 Calls Tryz.prog 113 #[.agg #[.int .u64 ah, .int .u64 al], .int .u64 k] w (RetUB (A * k) true w) := by
 have E := Lib.hid (mulS_split (k := k) ha)
 have P := Lib.hid (Int.mul_nonneg ha.lo.1 hk.1)
 have F := Lib.hid hfit
 clear hfit
 go_enter Tryz.func113, Tryz.ntmps113
 go_wp2_with fail
 refine (mul64 ah k ha.hi.1 ha.hi.2 hk.1 hk.2 _).mono ?_
 rintro e w' ⟨h, l, rfl, h0, h1, l0, l1, hX, rfl⟩
 have HX := Lib.hid hX
 clear hX
 obtain rfl : h = 0 := by have := E.out; have := P.out; have := F.out; have := HX.out; omega
 go_wp2_with fail
 refine (wMul al k ha.lo hk _).mono ?_
 rintro e w1 ⟨mh, ml, rfl, hm, hb⟩
 obtain ⟨hB1, hs1, hc1, hf1, hz1⟩ := after (w0 := w) hb (by go_grown)
 clear hb
 go_wp2_with fail
 have hl : IsU l 0 (l * 18446744073709551616) := ⟨l0, l1, by omega, by omega, by omega⟩
 refine (wAdd_fit l 0 _ mh ml _ hl hm (by have := E.out; have := F.out; have := HX.out; omega) _).mono ?_
 rintro e w2 ⟨sh, sl, rfl, hs, hb2⟩
 obtain ⟨hB2, hs2, hc2, hf2, hz2⟩ := after (w0 := w) hb2 (by go_grown)
 clear hb2 hB1 hs1
 go_wp2
 refine bodyPost_ret (v := .tuple #[.agg #[.int .u64 sh, .int .u64 sl], .bool true]) (by simp (maxDischargeDepth := 8) [results, Tryz.results113, go_sem, *]) rfl ?_
 have hs' : IsU sh sl (A * k) := by
  have e : A * k = l * 18446744073709551616 + al * k := by have := E.out; have := HX.out; omega
  rw [e]; exact hs
 exact ⟨sh, sl, rfl, hs', by go_grown⟩
theorem wMulSmall_over (ah al A k : Int) (ha : IsU ah al A) (hk : IsW k) (hfit : 340282366920938463463374607431768211456 ≤ A * k) (w : World) :
 Calls Tryz.prog 113 #[.agg #[.int .u64 ah, .int .u64 al], .int .u64 k] w (RetUB 0 false w) := by
 have E := Lib.hid (mulS_split (k := k) ha)
 have F := Lib.hid hfit
 clear hfit
 go_enter Tryz.func113, Tryz.ntmps113
 go_wp2_with fail
 refine (mul64 ah k ha.hi.1 ha.hi.2 hk.1 hk.2 _).mono ?_
 rintro e w' ⟨h, l, rfl, h0, h1, l0, l1, hX, rfl⟩
 have HX := Lib.hid hX
 clear hX
 by_cases hh : h = 0
 ·subst hh
  go_wp2_with fail
  refine (wMul al k ha.lo hk _).mono ?_
  rintro e w1 ⟨mh, ml, rfl, hm, hb⟩
  obtain ⟨hB1, hs1, hc1, hf1, hz1⟩ := after (w0 := w) hb (by go_grown)
  clear hb
  go_wp2_with fail
  have hl : IsU l 0 (l * 18446744073709551616) := ⟨l0, l1, by omega, by omega, by omega⟩
  refine (wAdd_over l 0 _ mh ml _ hl hm (by have := E.out; have := F.out; have := HX.out; omega) _).mono ?_
  rintro e w2 ⟨sh, sl, rfl, hs, hb2⟩
  obtain ⟨hB2, hs2, hc2, hf2, hz2⟩ := after (w0 := w) hb2 (by go_grown)
  clear hb2 hB1 hs1
  go_wp2
  refine bodyPost_ret (v := .tuple #[.agg #[.int .u64 sh, .int .u64 sl], .bool false]) (by simp (maxDischargeDepth := 8) [results, Tryz.results113, go_sem, *]) rfl ?_
  exact ⟨sh, sl, rfl, hs, by go_grown⟩
 ·have hb : (h == 0) = false := by simpa using hh
  have hb' : (h != 0) = true := by simpa using hh
  clear hh
  go_wp2
  go_returns
  exact ⟨0, 0, rfl, IsU.zero, by go_grown⟩
def dq (N y : Int) : Int := N / y
def dr (N y : Int) : Int := N % y
theorem dqr (N y : Int) (h : 1 ≤ y) : dq N y * y + dr N y = N ∧ 0 ≤ dr N y ∧ dr N y < y := by
 have e := Int.emod_add_mul_ediv N y
 rw [Int.mul_comm] at e
 exact ⟨by unfold dq dr; omega, Int.emod_nonneg N (by omega), Int.emod_lt_of_pos N (by omega)⟩
theorem dq_uniq {N y q r : Int} (h : q * y + r = N) (h0 : 0 ≤ r) (h1 : r < y) : q = dq N y ∧ r = dr N y := by
 obtain ⟨e, e0, e1⟩ := dqr N y (by omega)
 have d : (q - dq N y) * y = dr N y - r := by rw [Int.sub_mul]; omega
 have : q = dq N y := by
  refine Classical.byContradiction (fun hn => ?_)
  rcases Int.lt_or_gt_of_ne hn with hl | hl
  ·have : (q - dq N y) * y ≤ (-1) * y := Int.mul_le_mul_of_nonneg_right (by omega) (by omega)
   omega
  ·have : 1 * y ≤ (q - dq N y) * y := Int.mul_le_mul_of_nonneg_right (by omega) (by omega)
   omega
 subst this
 exact ⟨rfl, by omega⟩
theorem div64q (h l y : Int) (h0 : 0 ≤ h) (h1 : h < y) (l0 : 0 ≤ l) (l1 : l < 18446744073709551616) (y1 : y < 18446744073709551616) (w : World) :
 Calls Tryz.prog 126 #[.int .u64 h, .int .u64 l, .int .u64 y] w fun e w' => e = .returned (.tuple #[.int .u64 (dq (h * 18446744073709551616 + l) y), .int .u64 (dr (h * 18446744073709551616 + l) y)]) ∧ ∃ m, w' = w.drewN m := by
 refine (div64 h l y h0 h1 l0 l1 y1 w).mono ?_
 rintro e w' ⟨q, r, rfl, hqr, r0, r1, q0, q1, hw⟩
 obtain ⟨rfl, rfl⟩ := dq_uniq hqr r0 r1
 exact ⟨rfl, hw⟩
theorem dq_word (h l y : Int) (h0 : 0 ≤ h) (h1 : h < y) (l0 : 0 ≤ l) (l1 : l < 18446744073709551616) : IsW (dq (h * 18446744073709551616 + l) y) := by
 obtain ⟨e, e0, e1⟩ := dqr (h * 18446744073709551616 + l) y (by omega)
 refine ⟨Int.ediv_nonneg (by omega) (by omega), Int.not_le.1 (fun hl => ?_)⟩
 have : 18446744073709551616 * y ≤ dq (h * 18446744073709551616 + l) y * y := Int.mul_le_mul_of_nonneg_right hl (by omega)
 omega
def RetDM (A d : Int) (w : World) (e : Ending) (w' : World) : Prop :=
 ∃ h l r q : Int, e = .returned (.tuple #[.agg #[.int .u64 h, .int .u64 l], .int .u64 r, .bool true]) ∧ IsU h l q ∧ q * d + r = A ∧ 0 ≤ r ∧ r < d ∧ Below w.heap.size w w'
theorem wDivMod (ah al A d : Int) (ha : IsU ah al A) (d0 : 1 ≤ d) (d1 : d < 18446744073709551616) (w : World) :
 Calls Tryz.prog 112 #[.agg #[.int .u64 ah, .int .u64 al], .int .u64 d] w (RetDM A d w) := by
 have hd : (d == 0) = false := by rw [beq_eq_false_iff_ne]; omega
 have m0 := Int.emod_nonneg ah (show d ≠ 0 by omega)
 have m1 := Int.emod_lt_of_pos ah (show 0 < d by omega)
 have q0 : 0 ≤ ah / d := Int.ediv_nonneg ha.1 (by omega)
 have q1 : ah / d ≤ ah := Int.ediv_le_self _ ha.1
 have a0 := ha.1
 have a1 := ha.2.1
 go_enter Tryz.func112, Tryz.ntmps112
 go_wp2
 go_quiet ((go_at_call 126; exact Calls.quiet_of (div64q (ah % d) al d m0 m1 ha.lo.1 ha.lo.2 d1 _)))
 go_wp2
 go_returns
 obtain ⟨e, e0, e1⟩ := dqr (ah % d * 18446744073709551616 + al) d d0
 have wq := dq_word (ah % d) al d m0 m1 ha.lo.1 ha.lo.2
 have x := Int.emod_add_mul_ediv ah d
 rw [Int.mul_comm] at x
 refine ⟨_, _, _, ah / d * 18446744073709551616 + dq (ah % d * 18446744073709551616 + al) d, rfl, ⟨q0, by have := ha.2.1; omega, wq.1, wq.2, rfl⟩, ?_, e0, e1, ?_⟩
 ·rw [Int.add_mul, Int.mul_right_comm, ← ha.eq]
  generalize ah / d * d = z at *
  omega
 ·go_grown
  exact bdrewN (by go_grown)
end Go.Proofs.YtdioaiepkhepaaaGreatDoor
