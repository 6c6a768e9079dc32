/- Walks of package ref01: Of, Mul, Add, Compare, Sub. No condition but the words' own range. -/
import Derived.Test.YtdioaiepkhepaaaGreatDoorWideAB
namespace Go.Proofs.YtdioaiepkhepaaaGreatDoor
set_option maxRecDepth 100000
open Go.RowKit
theorem rMul (a b : Int) (ha : IsW a) (hb : IsW b) (w : World) :
 Calls Tryz.prog 84 #[.int .u64 a, .int .u64 b] w (RetU (a * b) w) := by
 go_enter Tryz.func84, Tryz.ntmps84
 go_wp2_with (go_at_call 102; refine (mul64 a b ha.1 ha.2 hb.1 hb.2 _).mono ?_; rintro e w' ⟨h, l, rfl, h0, h1, l0, l1, hX, rfl⟩; have HX := Lib.hid hX; clear hX)
 go_returns
 exact ⟨h, l, rfl, ⟨h0, h1, l0, l1, HX.out⟩, by go_grown⟩
theorem rAdd_fit (ah al A bh bl B : Int) (ha : IsU ah al A) (hb : IsU bh bl B) (hfit : A + B < 340282366920938463463374607431768211456) (w : World) :
 Calls Tryz.prog 83 #[.agg #[.int .u64 ah, .int .u64 al], .agg #[.int .u64 bh, .int .u64 bl]] w (RetUB (A + B) true w) := by
 have E := Lib.hid (add_hi ha hb)
 obtain ⟨a0, a1, a2, a3, a4⟩ := ha
 obtain ⟨b0, b1, b2, b3, b4⟩ := hb
 have k0 : 0 ≤ (al + bl) / 18446744073709551616 := by omega
 have k1 : (al + bl) / 18446744073709551616 ≤ 1 := by omega
 have HX : Hid ((ah + bh + (al + bl) / 18446744073709551616) / 18446744073709551616 = 0) := by show _ = _; omega
 have hc : ((ah + bh + (al + bl) / 18446744073709551616) / 18446744073709551616 != 0) = false := by rw [HX.out]; rfl
 clear hfit a4 b4
 go_enter Tryz.func83, Tryz.ntmps83
 go_wp2_with (first | simp only [add64_0 al bl a2 b2] | simp only [add64 ah bh _ a0 b0 k0 k1])
 go_returns
 exact ⟨_, _, rfl, ⟨by omega, by omega, by omega, by omega, by have := HX.out; have := E.out; omega⟩, by go_grown⟩
theorem rAdd_over (ah al A bh bl B : Int) (ha : IsU ah al A) (hb : IsU bh bl B) (hfit : 340282366920938463463374607431768211456 ≤ A + B) (w : World) :
 Calls Tryz.prog 83 #[.agg #[.int .u64 ah, .int .u64 al], .agg #[.int .u64 bh, .int .u64 bl]] w (RetUB 0 false w) := by
 obtain ⟨a0, a1, a2, a3, a4⟩ := ha
 obtain ⟨b0, b1, b2, b3, b4⟩ := hb
 have k0 : 0 ≤ (al + bl) / 18446744073709551616 := by omega
 have k1 : (al + bl) / 18446744073709551616 ≤ 1 := by omega
 have HX : Hid ((ah + bh + (al + bl) / 18446744073709551616) / 18446744073709551616 = 1) := by show _ = _; omega
 have hc : ((ah + bh + (al + bl) / 18446744073709551616) / 18446744073709551616 != 0) = true := by rw [HX.out]; rfl
 clear hfit a4 b4
 go_enter Tryz.func83, Tryz.ntmps83
 go_wp2_with (first | simp only [add64_0 al bl a2 b2] | simp only [add64 ah bh _ a0 b0 k0 k1])
 go_returns
 exact ⟨_, _, rfl, IsU.zero, by go_grown⟩
theorem rCompare (ah al A bh bl B : Int) (ha : IsU ah al A) (hb : IsU bh bl B) (w : World) :
 Calls Tryz.prog 117 #[.agg #[.int .u64 ah, .int .u64 al], .agg #[.int .u64 bh, .int .u64 bl]] w (RetV (.int .i64 (cmpI A B)) w) := by
 have ea := ha.eq
 have eb := hb.eq
 obtain ⟨-, -, a2, a3, -⟩ := ha
 obtain ⟨-, -, b2, b3, -⟩ := hb
 rcases Int.lt_trichotomy ah bh with h | h | h
 ·rw [cmpI_lt (by omega)]
  have h1 : (ah == bh) = false := by rw [beq_eq_false_iff_ne]; omega
  clear ea eb a2 a3 b2 b3 A B
  go_enter Tryz.func117, Tryz.ntmps117
  go_wp2
  go_ret
  exact ⟨rfl, by go_grown⟩
 ·subst h
  rcases Int.lt_trichotomy al bl with h | h | h
  ·rw [cmpI_lt (by omega)]
   have h1 : (al == bl) = false := by rw [beq_eq_false_iff_ne]; omega
   clear ea eb a2 a3 b2 b3 A B
   go_enter Tryz.func117, Tryz.ntmps117
   go_wp2
   go_ret
   exact ⟨rfl, by go_grown⟩
  ·subst h
   obtain rfl : A = B := by omega
   rw [cmpI_eq]
   clear ea eb a2 a3 b2 b3 A
   go_enter Tryz.func117, Tryz.ntmps117
   go_wp2
   go_ret
   exact ⟨rfl, by go_grown⟩
  ·rw [cmpI_gt (by omega)]
   have h1 : (al == bl) = false := by rw [beq_eq_false_iff_ne]; omega
   have h2 : ¬ al < bl := by omega
   clear ea eb a2 a3 b2 b3 A B
   go_enter Tryz.func117, Tryz.ntmps117
   go_wp2
   go_ret
   exact ⟨rfl, by go_grown⟩
 ·rw [cmpI_gt (by omega)]
  have h1 : (ah == bh) = false := by rw [beq_eq_false_iff_ne]; omega
  have h2 : ¬ ah < bh := by omega
  clear ea eb a2 a3 b2 b3 A B
  go_enter Tryz.func117, Tryz.ntmps117
  go_wp2
  go_ret
  exact ⟨rfl, by go_grown⟩
theorem rSub_fit (ah al A bh bl B : Int) (ha : IsU ah al A) (hb : IsU bh bl B) (hfit : B ≤ A) (w : World) :
 Calls Tryz.prog 99 #[.agg #[.int .u64 ah, .int .u64 al], .agg #[.int .u64 bh, .int .u64 bl]] w (RetUB (A - B) true w) := by
 have E := Lib.hid (sub_hi ha hb)
 have hcm : ¬ cmpI A B < 0 := by
  unfold cmpI
  rw [if_neg (by omega)]
  split <;> decide
 obtain ⟨k0, k1⟩ := bor01 al bl
 have ha' := ha
 have hb' := hb
 obtain ⟨a0, a1, a2, a3, a4⟩ := ha
 obtain ⟨b0, b1, b2, b3, b4⟩ := hb
 have c0 : 0 ≤ ah - bh := by have := E.out; omega
 have c1 : 0 ≤ ah - bh - bor al bl := by have := E.out; omega
 clear hfit a4 b4
 go_enter Tryz.func99, Tryz.ntmps99
 go_wp2_with fail
 refine (rCompare ah al A bh bl B ha' hb' _).mono ?_
 rintro e w1 ⟨rfl, hb⟩
 obtain ⟨hB1, hs1, hc1, hf1, hz1⟩ := after (w0 := w) hb (by go_grown); have z10 : w.heap.size < w1.heap.size := hz1 _ (by go_size); have z11 : w.heap.size + 1 < w1.heap.size := hz1 _ (by go_size); have z12 : w.heap.size + 1 + 1 < w1.heap.size := hz1 _ (by go_size); clear hb hz1
 go_wp2_with (simp only [sub64_0 al bl a2 b2 b3])
 refine bodyPost_ret (v := .tuple #[.agg #[.int .u64 (ah - bh - bor al bl), .int .u64 ((al - bl) % 18446744073709551616)], .bool true]) (by simp (maxDischargeDepth := 8) [results, Tryz.results99, go_sem, *]) rfl ?_
 have e1 := E.out
 exact ⟨_, _, rfl, ⟨by omega, by omega, by omega, by omega, by omega⟩, by go_grown⟩
theorem rSub_neg (ah al A bh bl B : Int) (ha : IsU ah al A) (hb : IsU bh bl B) (hfit : A < B) (w : World) :
 Calls Tryz.prog 99 #[.agg #[.int .u64 ah, .int .u64 al], .agg #[.int .u64 bh, .int .u64 bl]] w (RetUB 0 false w) := by
 have hcm : cmpI A B < 0 := by rw [cmpI_lt hfit]; decide
 clear hfit
 go_enter Tryz.func99, Tryz.ntmps99
 go_wp2_with fail
 refine (rCompare ah al A bh bl B ha hb _).mono ?_
 rintro e w1 ⟨rfl, hb⟩
 obtain ⟨hB1, hs1, hc1, hf1, hz1⟩ := after (w0 := w) hb (by go_grown); have z10 : w.heap.size < w1.heap.size := hz1 _ (by go_size); have z11 : w.heap.size + 1 < w1.heap.size := hz1 _ (by go_size); have z12 : w.heap.size + 1 + 1 < w1.heap.size := hz1 _ (by go_size); clear hb hz1
 go_wp2
 refine bodyPost_ret (v := .tuple #[.agg #[.int .u64 0, .int .u64 0], .bool false]) (by simp (maxDischargeDepth := 8) [results, Tryz.results99, go_sem, *]) rfl ?_
 exact ⟨0, 0, rfl, IsU.zero, by go_grown⟩
end Go.Proofs.YtdioaiepkhepaaaGreatDoor
