/- compositorlaw02.WideMulSmallAgrees: the walk. Every input. -/
import Derived.Test.YtjgbkjkckhaheaaBoth
import Derived.Test.YtjgbkjkckhaheaaLaw02c
import Derived.Deep.DeepCutAuto
import Derived.BigRegion
namespace Go.Proofs.Ytjgbkjkckhaheaa
open Go.RowKit

set_option maxRecDepth 100000 in
set_option maxHeartbeats 16000000 in
theorem lMulS (ah al k s j : Int) (h0 : IsW ah) (h1 : IsW al) (hk : IsW k) (j0 : -9223372036854775808 ≤ j) (j1 : j ≤ 9223372036854775807) (s0 : -9223372036854775808 ≤ s) (s1 : s ≤ 9223372036854775807) (w : World) :
    Calls Try.prog 5 #[.agg #[.int .u64 ah, .int .u64 al], .int .u64 k, .int .i64 s, .int .i64 j] w (RetV (.bool true) w) := by
  have u1 : IsU ah al (ah * 18446744073709551616 + al) := ⟨h0.1, h0.2, h1.1, h1.2, rfl⟩
  obtain ⟨g0, g1⟩ := gm_lt s (k := 64) (by decide)
  obtain ⟨p0, p1⟩ := gm_lt (s.tdiv 64) (k := 1000) (by decide)
  have t0 : -9223372036854775808 ≤ s.tdiv 64 := by have := Int.tmod_add_mul_tdiv s 64; have := tmod_bd s (k := 64) (by decide); omega
  have t1 : s.tdiv 64 ≤ 9223372036854775807 := by have := Int.tmod_add_mul_tdiv s 64; have := tmod_bd s (k := 64) (by decide); omega
  go_enter Try.func5, Try.ntmps5
  go_wp2_with fail
  refine (lNear ah al _ j u1 j0 j1 _).mono ?_
  rintro e w1 ⟨bh, bl, X, rfl, hX, hb⟩
  obtain ⟨hB1, hs1, hc1, hf1, hz1⟩ := after (w0 := w) hb (by go_grown); have z10 : w.heap.size < w1.heap.size := hz1 _ (by go_size); have y10 := Nat.le_of_lt z10; have x10 : w.heap.size ≤ w1.heap.size + 1 := Nat.le_succ_of_le y10; have m1 : w1.heap.size ≤ w1.heap.size + 1 := Nat.le_succ _; have n1 : w1.heap.size < w1.heap.size + 1 + 1 := (by omega); clear hb hz1
  go_wp2_with fail
  refine (wMulSmallC bh bl X k hX hk _).mono ?_
  rintro e w2 ⟨xh, xl, rfl, hx, hb⟩
  obtain ⟨hB2, hs2, hc2, hf2, hz2⟩ := after (w0 := w) hb (by go_grown); have z20 : w.heap.size < w2.heap.size := hz2 _ (by go_size); have y20 := Nat.le_of_lt z20; have x20 : w.heap.size ≤ w2.heap.size + 1 := Nat.le_succ_of_le y20; have m2 : w2.heap.size ≤ w2.heap.size + 1 := Nat.le_succ _; have n2 : w2.heap.size < w2.heap.size + 1 + 1 := (by omega); clear hb hz2
  go_wp2_with fail
  refine (rMulSmallC bh bl X k hX hk _).mono ?_
  rintro e w3 ⟨yh, yl, rfl, hy, hb⟩
  obtain ⟨hB3, hs3, hc3, hf3, hz3⟩ := after (w0 := w) hb (by go_grown); have z30 : w.heap.size < w3.heap.size := hz3 _ (by go_size); have y30 := Nat.le_of_lt z30; have x30 : w.heap.size ≤ w3.heap.size + 1 := Nat.le_succ_of_le y30; have z31 : w2.heap.size < w3.heap.size := hz3 _ (by go_size); have y31 := Nat.le_of_lt z31; have x31 : w2.heap.size ≤ w3.heap.size + 1 := Nat.le_succ_of_le y31; have m3 : w3.heap.size ≤ w3.heap.size + 1 := Nat.le_succ _; have n3 : w3.heap.size < w3.heap.size + 1 + 1 := (by omega); clear hb hz3
  obtain ⟨rfl, rfl⟩ := hx.ext hy
  clear hx hy
  have b0 := hX.1
  have b1 := hX.2.1
  have b2 := hX.2.2.1
  have b3 := hX.2.2.2.1
  obtain ⟨q, hq⟩ : ∃ q : Int, q = bh / 2 ^ (gm s 64).toNat := ⟨_, rfl⟩
  have q0 : 0 ≤ q := by rw [hq]; exact Int.ediv_nonneg b0 (Int.le_of_lt (Int.pow_pos (by decide)))
  have q1 : q < 18446744073709551616 := by have := Int.ediv_le_self (2 ^ (gm s 64).toNat) b0; omega
  have hq' := hq.symm
  clear hq
  go_wp2_with fail
  have c0 : (w3.alloc (.cells #[.int .u64 xh, .int .u64 xl] 24)).cell? ⟨w.heap.size, 0, none⟩ = some (.int .u64 bh) := by simp (maxDischargeDepth := 8) [go_sem, *]
  have c1 : (w3.alloc (.cells #[.int .u64 xh, .int .u64 xl] 24)).cell? ⟨w.heap.size, 1, none⟩ = some (.int .u64 bl) := by simp (maxDischargeDepth := 8) [go_sem, *]
  have hcv : IntKind.u64.wrap (gm s 64) = gm s 64 := IntWalk.u64_in _ (by omega)
  go_region_held3 (fun w' => w'.cell? ⟨w.heap.size, 0, none⟩ = some (.int .u64 bh) ∧ w'.cell? ⟨w.heap.size, 1, none⟩ = some (.int .u64 bl)) ((first | exact ⟨c0, c1⟩ | (simp (maxDischargeDepth := 8) [go_sem, *]; done))) ((go_at_call 25; refine (gMod s 64 (by decide) (by decide) _).mono ?_; rintro e w4 ⟨rfl, rfl⟩))
  all_goals
    clear hcv
    have hXc : IsU q bl (q * 18446744073709551616 + bl) := ⟨q0, q1, b2, b3, rfl⟩
    go_wp2_with fail
    refine (gMod (s.tdiv 64) 1000 (by decide) (by decide) _).mono ?_
    rintro e w5 ⟨rfl, rfl⟩
    have hk2 : IsW (gm (s.tdiv 64) 1000) := ⟨by omega, by omega⟩
    go_wp2_with fail
    refine (wMulSmallC q bl _ _ hXc hk2 _).mono ?_
    rintro e w6 ⟨uh, ul, rfl, hu, hb⟩
    obtain ⟨hB6, hs6, hc6, hf6, hz6⟩ := after (w0 := w) hb (by go_grown); have z60 : w.heap.size < w6.heap.size := hz6 _ (by go_size); have y60 := Nat.le_of_lt z60; have x60 : w.heap.size ≤ w6.heap.size + 1 := Nat.le_succ_of_le y60; have z61 : w2.heap.size < w6.heap.size := hz6 _ (by go_size); have y61 := Nat.le_of_lt z61; have x61 : w2.heap.size ≤ w6.heap.size + 1 := Nat.le_succ_of_le y61; have z62 : w3.heap.size < w6.heap.size := hz6 _ (by go_size); have y62 := Nat.le_of_lt z62; have x62 : w3.heap.size ≤ w6.heap.size + 1 := Nat.le_succ_of_le y62; have z63 : w3.heap.size + 1 < w6.heap.size := hz6 _ (by go_size); have m6 : w6.heap.size ≤ w6.heap.size + 1 := Nat.le_succ _; have n6 : w6.heap.size < w6.heap.size + 1 + 1 := (by omega); clear hb hz6
    have d0 : w6.cell? ⟨w2.heap.size, 0, none⟩ = some (.int .u64 xh) := (hc6 _ _ (by go_size)).trans (by simp (maxDischargeDepth := 8) [go_sem, *])
    have d1 : w6.cell? ⟨w2.heap.size, 1, none⟩ = some (.int .u64 xl) := (hc6 _ _ (by go_size)).trans (by simp (maxDischargeDepth := 8) [go_sem, *])
    have d2 : w6.cell? ⟨w3.heap.size, 0, none⟩ = some (.int .u64 xh) := (hc6 _ _ (by go_size)).trans (by simp (maxDischargeDepth := 8) [go_sem, *])
    have d3 : w6.cell? ⟨w3.heap.size, 1, none⟩ = some (.int .u64 xl) := (hc6 _ _ (by go_size)).trans (by simp (maxDischargeDepth := 8) [go_sem, *])
    go_wp2_with fail
    refine (rMulSmallC q bl _ _ hXc hk2 _).mono ?_
    rintro e w7 ⟨vh, vl, rfl, hv, hb⟩
    obtain ⟨hB7, hs7, hc7, hf7, hz7⟩ := after (w0 := w) hb (by go_grown); have z70 : w.heap.size < w7.heap.size := hz7 _ (by go_size); have y70 := Nat.le_of_lt z70; have x70 : w.heap.size ≤ w7.heap.size + 1 := Nat.le_succ_of_le y70; have z71 : w2.heap.size < w7.heap.size := hz7 _ (by go_size); have y71 := Nat.le_of_lt z71; have x71 : w2.heap.size ≤ w7.heap.size + 1 := Nat.le_succ_of_le y71; have z72 : w3.heap.size < w7.heap.size := hz7 _ (by go_size); have y72 := Nat.le_of_lt z72; have x72 : w3.heap.size ≤ w7.heap.size + 1 := Nat.le_succ_of_le y72; have z73 : w3.heap.size + 1 < w7.heap.size := hz7 _ (by go_size); have z74 : w6.heap.size < w7.heap.size := hz7 _ (by go_size); have y74 := Nat.le_of_lt z74; have x74 : w6.heap.size ≤ w7.heap.size + 1 := Nat.le_succ_of_le y74; have m7 : w7.heap.size ≤ w7.heap.size + 1 := Nat.le_succ _; have n7 : w7.heap.size < w7.heap.size + 1 + 1 := (by omega); clear hb hz7
    obtain ⟨rfl, rfl⟩ := hu.ext hv
    clear hu hv
    go_wp2_with fail
    refine (lAwake02 _).mono ?_
    rintro e w8 ⟨rfl, hb⟩
    obtain ⟨hB8, hs8, hc8, hf8, hz8⟩ := after (w0 := w) hb (by go_grown); have z80 : w.heap.size < w8.heap.size := hz8 _ (by go_size); have y80 := Nat.le_of_lt z80; have x80 : w.heap.size ≤ w8.heap.size + 1 := Nat.le_succ_of_le y80; have z81 : w2.heap.size < w8.heap.size := hz8 _ (by go_size); have y81 := Nat.le_of_lt z81; have x81 : w2.heap.size ≤ w8.heap.size + 1 := Nat.le_succ_of_le y81; have z82 : w3.heap.size < w8.heap.size := hz8 _ (by go_size); have y82 := Nat.le_of_lt z82; have x82 : w3.heap.size ≤ w8.heap.size + 1 := Nat.le_succ_of_le y82; have z83 : w3.heap.size + 1 < w8.heap.size := hz8 _ (by go_size); have z84 : w6.heap.size < w8.heap.size := hz8 _ (by go_size); have y84 := Nat.le_of_lt z84; have x84 : w6.heap.size ≤ w8.heap.size + 1 := Nat.le_succ_of_le y84; have z85 : w7.heap.size < w8.heap.size := hz8 _ (by go_size); have y85 := Nat.le_of_lt z85; have x85 : w7.heap.size ≤ w8.heap.size + 1 := Nat.le_succ_of_le y85; have m8 : w8.heap.size ≤ w8.heap.size + 1 := Nat.le_succ _; have n8 : w8.heap.size < w8.heap.size + 1 + 1 := (by omega); clear hb hz8
    go_wp2
    go_ret
    exact ⟨rfl, by go_grown⟩
end Go.Proofs.Ytjgbkjkckhaheaa
