/- The package wide: first walks. No condition. -/
import Derived.Test.YtdioaiepkhepaaaGreatDoorGround
namespace Go.Proofs.YtdioaiepkhepaaaGreatDoor
set_option maxRecDepth 100000
open Go.RowKit
theorem wOf (a : Int) (w : World) :
 Calls Tryz.prog 109 #[.int .u64 a] w fun e w' => e = .returned (.agg #[.int .u64 0, .int .u64 a]) ∧ Below w.heap.size w w' := by
 go_enter Tryz.func109, Tryz.ntmps109
 go_wp2
 go_returns
 exact ⟨rfl, by go_grown⟩
theorem wMul (a b : Int) (ha : IsW a) (hb : IsW b) (w : World) :
 Calls Tryz.prog 91 #[.int .u64 a, .int .u64 b] w (RetU (a * b) w) := by
 go_enter Tryz.func91, Tryz.ntmps91
 go_wp2_with (go_at_call 102; refine (mul64 a b ha.1 ha.2 hb.1 hb.2 _).mono ?_; rintro e w' ⟨h, l, rfl, h0, h1, l0, l1, hX, rfl⟩; have HX := Lib.hid hX; clear hX)
 go_returns
 exact ⟨h, l, rfl, ⟨h0, h1, l0, l1, HX.out⟩, by go_grown⟩
theorem add_hi {ah al A bh bl B : Int} (ha : IsU ah al A) (hb : IsU bh bl B) : (ah + bh + (al + bl) / 18446744073709551616) * 18446744073709551616 + (al + bl) % 18446744073709551616 = A + B := by
 obtain ⟨a0, a1, a2, a3, a4⟩ := ha
 obtain ⟨b0, b1, b2, b3, b4⟩ := hb
 omega
theorem wAdd_fit (ah al A bh bl B : Int) (ha : IsU ah al A) (hb : IsU bh bl B) (hfit : A + B < 340282366920938463463374607431768211456) (w : World) :
 Calls Tryz.prog 90 #[.agg #[.int .u64 ah, .int .u64 al], .agg #[.int .u64 bh, .int .u64 bl]] w (RetUB (A + B) true w) := by
 have E := Lib.hid (add_hi ha hb)
 obtain ⟨a0, a1, a2, a3, a4⟩ := ha
 obtain ⟨b0, b1, b2, b3, b4⟩ := hb
 have k0 : 0 ≤ (al + bl) / 18446744073709551616 := by omega
 have k1 : (al + bl) / 18446744073709551616 ≤ 1 := by omega
 have HX : Hid ((ah + bh + (al + bl) / 18446744073709551616) / 18446744073709551616 = 0) := by show _ = _; omega
 have hc : ((ah + bh + (al + bl) / 18446744073709551616) / 18446744073709551616 != 0) = false := by rw [HX.out]; rfl
 clear hfit a4 b4
 go_enter Tryz.func90, Tryz.ntmps90
 go_wp2_with (first | simp only [add64_0 al bl a2 b2] | simp only [add64 ah bh _ a0 b0 k0 k1])
 go_returns
 exact ⟨_, _, rfl, ⟨by omega, by omega, by omega, by omega, by have := HX.out; have := E.out; omega⟩, by go_grown⟩
theorem wAdd_over (ah al A bh bl B : Int) (ha : IsU ah al A) (hb : IsU bh bl B) (hfit : 340282366920938463463374607431768211456 ≤ A + B) (w : World) :
 Calls Tryz.prog 90 #[.agg #[.int .u64 ah, .int .u64 al], .agg #[.int .u64 bh, .int .u64 bl]] w (RetUB 0 false w) := by
 obtain ⟨a0, a1, a2, a3, a4⟩ := ha
 obtain ⟨b0, b1, b2, b3, b4⟩ := hb
 have k0 : 0 ≤ (al + bl) / 18446744073709551616 := by omega
 have k1 : (al + bl) / 18446744073709551616 ≤ 1 := by omega
 have HX : Hid ((ah + bh + (al + bl) / 18446744073709551616) / 18446744073709551616 = 1) := by show _ = _; omega
 have hc : ((ah + bh + (al + bl) / 18446744073709551616) / 18446744073709551616 != 0) = true := by rw [HX.out]; rfl
 clear hfit a4 b4
 go_enter Tryz.func90, Tryz.ntmps90
 go_wp2_with (first | simp only [add64_0 al bl a2 b2] | simp only [add64 ah bh _ a0 b0 k0 k1])
 go_returns
 exact ⟨_, _, rfl, IsU.zero, by go_grown⟩
theorem sub_hi {ah al A bh bl B : Int} (ha : IsU ah al A) (hb : IsU bh bl B) : (ah - bh - bor al bl) * 18446744073709551616 + (al - bl) % 18446744073709551616 = A - B := by
 obtain ⟨a0, a1, a2, a3, a4⟩ := ha
 obtain ⟨b0, b1, b2, b3, b4⟩ := hb
 unfold bor
 split <;> omega
theorem wSub_fit (ah al A bh bl B : Int) (ha : IsU ah al A) (hb : IsU bh bl B) (hfit : B ≤ A) (w : World) :
 Calls Tryz.prog 114 #[.agg #[.int .u64 ah, .int .u64 al], .agg #[.int .u64 bh, .int .u64 bl]] w (RetUB (A - B) true w) := by
 have E := Lib.hid (sub_hi ha hb)
 obtain ⟨k0, k1⟩ := bor01 al bl
 obtain ⟨a0, a1, a2, a3, a4⟩ := ha
 obtain ⟨b0, b1, b2, b3, b4⟩ := hb
 have hz : Hid (bor ah (bh + bor al bl) = 0) := by
  have := E.out
  show _ = _
  rw [bor, if_neg (by omega)]
 have hc : (bor ah (bh + bor al bl) != 0) = false := by rw [hz.out]; rfl
 clear hfit a4 b4
 go_enter Tryz.func114, Tryz.ntmps114
 go_wp2_with (first | simp only [sub64_0 al bl a2 b2 b3] | simp only [sub64' ah bh _ a0 b0 b1 k0 k1])
 go_returns
 have e1 := E.out
 have e2 : ¬ ah < bh + bor al bl := fun h => by have := hz.out; rw [bor, if_pos h] at this; omega
 exact ⟨_, _, rfl, ⟨by omega, by omega, by omega, by omega, by omega⟩, by go_grown⟩
theorem wSub_neg (ah al A bh bl B : Int) (ha : IsU ah al A) (hb : IsU bh bl B) (hfit : A < B) (w : World) :
 Calls Tryz.prog 114 #[.agg #[.int .u64 ah, .int .u64 al], .agg #[.int .u64 bh, .int .u64 bl]] w (RetUB 0 false w) := by
 have E := Lib.hid (sub_hi ha hb)
 obtain ⟨k0, k1⟩ := bor01 al bl
 obtain ⟨a0, a1, a2, a3, a4⟩ := ha
 obtain ⟨b0, b1, b2, b3, b4⟩ := hb
 have hz : Hid (bor ah (bh + bor al bl) = 1) := by
  have := E.out
  show _ = _
  rw [bor, if_pos (by omega)]
 have hc : (bor ah (bh + bor al bl) != 0) = true := by rw [hz.out]; rfl
 clear hfit a4 b4
 go_enter Tryz.func114, Tryz.ntmps114
 go_wp2_with (first | simp only [sub64_0 al bl a2 b2 b3] | simp only [sub64' ah bh _ a0 b0 b1 k0 k1])
 go_returns
 exact ⟨_, _, rfl, IsU.zero, by go_grown⟩
theorem cmpCompare (x y : Int) (w : World) :
 Calls Tryz.prog 128 #[.int .u64 x, .int .u64 y] w fun e w' => e = .returned (.int .i64 (cmpI x y)) ∧ w' = w := by
 by_cases h1 : x < y
 ·rw [cmpI_lt h1]
  go_enter Tryz.func128, Tryz.ntmps128
  go_wp2
  go_ret
  exact ⟨rfl, rfl⟩
 by_cases h2 : x = y
 ·subst h2
  rw [cmpI_eq]
  go_enter Tryz.func128, Tryz.ntmps128
  go_wp2
  go_ret
  exact ⟨rfl, rfl⟩
 ·have h3 : y < x := by omega
  rw [cmpI_gt h3]
  clear h1 h2
  go_enter Tryz.func128, Tryz.ntmps128
  go_wp2
  go_ret
  exact ⟨rfl, rfl⟩
end Go.Proofs.YtdioaiepkhepaaaGreatDoor
namespace Go.Proofs.YtdioaiepkhepaaaGreatDoor
set_option maxRecDepth 100000
open Go.RowKit
def orI (x y : Int) : Int := if x = 0 then y else x
theorem cmpOr (x y : Int) (w : World) (b : Nat) (c0 : w.cell? ⟨b, 0, none⟩ = some (.int .i64 x)) (c1 : w.cell? ⟨b, 1, none⟩ = some (.int .i64 y)) :
 Calls Tryz.prog 127 #[.slice (some ⟨b, 0, none⟩) 2 2] w fun e w' => e = .returned (.int .i64 (orI x y)) ∧ w' = w := by
 by_cases h1 : x = 0
 ·subst h1
  by_cases h2 : y = 0
  ·subst h2
   go_enter Tryz.func127, Tryz.ntmps127
   go_wp2
   go_rounds 3
   go_ret
   exact ⟨rfl, rfl⟩
  ·have h3 : (y == 0) = false := by simpa using h2
   have h4 : (y != 0) = true := by simpa using h2
   go_enter Tryz.func127, Tryz.ntmps127
   go_wp2
   go_rounds 3
   go_ret
   exact ⟨rfl, rfl⟩
 ·have h3 : (x == 0) = false := by simpa using h1
  have h4 : (x != 0) = true := by simpa using h1
  have e : orI x y = x := if_neg h1
  rw [e]
  clear h1 e
  go_enter Tryz.func127, Tryz.ntmps127
  go_wp2
  go_rounds 3
  go_ret
  exact ⟨rfl, rfl⟩
theorem orI_cmp {ah al A bh bl B : Int} (ha : IsU ah al A) (hb : IsU bh bl B) : orI (cmpI ah bh) (cmpI al bl) = cmpI A B := by
 obtain ⟨a0, a1, a2, a3, a4⟩ := ha
 obtain ⟨b0, b1, b2, b3, b4⟩ := hb
 unfold orI cmpI
 by_cases h1 : ah < bh
 ·rw [if_pos h1, if_neg (by decide), if_pos (by omega)]
 rw [if_neg h1]
 by_cases h2 : ah = bh
 ·rw [if_pos h2, if_pos rfl]
  by_cases h3 : al < bl
  ·rw [if_pos h3, if_pos (by omega)]
  by_cases h4 : al = bl
  ·rw [if_neg h3, if_pos h4, if_neg (by omega), if_pos (by omega)]
  ·rw [if_neg h3, if_neg h4, if_neg (by omega), if_neg (by omega)]
 ·rw [if_neg h2, if_neg (by decide), if_neg (by omega), if_neg (by omega)]
theorem wCompare (ah al A bh bl B : Int) (ha : IsU ah al A) (hb : IsU bh bl B) (w : World) :
 Calls Tryz.prog 116 #[.agg #[.int .u64 ah, .int .u64 al], .agg #[.int .u64 bh, .int .u64 bl]] w (RetV (.int .i64 (cmpI A B)) w) := by
 rw [← orI_cmp ha hb]
 clear ha hb A B
 go_enter Tryz.func116, Tryz.ntmps116
 go_wp2
 refine wp_region_still_tail 10 (by kernel_rfl) (by kernel_rfl) ?_
 simp only [List.take_succ_cons, List.take_zero, List.drop_succ_cons, List.drop_zero]
 change wpStill _ _ (((w.alloc (.cells #[.int .u64 ah, .int .u64 al] 112)).alloc (.cells #[.int .u64 bh, .int .u64 bl] 112)).drew) _ _ _
 repeat still_step
 still_call (cmpCompare ah bh _)
 repeat still_step
 still_call (cmpCompare al bl _)
 refine wpStill_nil ?_
 change wpList _ _ _ _ _ (((w.alloc (.cells #[.int .u64 ah, .int .u64 al] 112)).alloc (.cells #[.int .u64 bh, .int .u64 bl] 112)).drew)
 go_wp2_with fail
 refine (cmpOr (cmpI ah bh) (cmpI al bl) _ _ (by simp [go_sem]) (by simp [go_sem])).mono ?_
 rintro e w1 ⟨rfl, rfl⟩
 go_wp2
 go_ret
 exact ⟨rfl, by go_grown⟩
end Go.Proofs.YtdioaiepkhepaaaGreatDoor
