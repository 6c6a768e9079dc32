/- compositorlaw02.WideHalfAgrees: the walk. Every input. -/
import Derived.Test.YtjgbkjkckhaheaaBoth
import Derived.Test.YtjgbkjkckhaheaaLaw02c
import Derived.Deep.DeepCutAuto
import Derived.BigRegion
namespace Go.Proofs.Ytjgbkjkckhaheaa
open Go.RowKit

theorem half_odd (m : Int) : halfI (m * 2 + 1) 2 = m + 1 := by
  unfold halfI dr dq
  rw [if_pos (by omega)]
  omega
set_option maxRecDepth 100000 in
set_option maxHeartbeats 16000000 in
theorem lHalf (ah al d k : Int) (h0 : IsW ah) (h1 : IsW al) (hd : IsW d) (k0 : -9223372036854775808 ≤ k) (k1 : k ≤ 9223372036854775807) (w : World) :
    Calls Try.prog 6 #[.agg #[.int .u64 ah, .int .u64 al], .int .u64 d, .int .i64 k] w (RetV (.bool true) w) := by
  have u1 : IsU ah al (ah * 18446744073709551616 + al) := ⟨h0.1, h0.2, h1.1, h1.2, rfl⟩
  go_enter Try.func6, Try.ntmps6
  go_wp2_with fail
  refine (lNear ah al _ k u1 k0 k1 _).mono ?_
  rintro e w1 ⟨bh, bl, X, rfl, hX, hb⟩
  obtain ⟨hB1, hs1, hc1, hf1, hz1⟩ := after (w0 := w) hb (by go_grown); have z10 : w.heap.size < w1.heap.size := hz1 _ (by go_size); clear hb hz1
  have d0 := hd.1
  have d1 := hd.2
  by_cases hz : d = 0
  · subst hz
    go_wp2_with fail
    refine (wHalf_0 bh bl _).mono ?_
    rintro e w2 ⟨rfl, hb⟩
    obtain ⟨hB2, hs2, hc2, hf2, hz2⟩ := after (w0 := w) hb (by go_grown); have z20 : w.heap.size < w2.heap.size := hz2 _ (by go_size); clear hb hz2
    go_wp2_with fail
    refine (rHalfWide_0 bh bl _).mono ?_
    rintro e w3 ⟨rfl, hb⟩
    obtain ⟨hB3, hs3, hc3, hf3, hz3⟩ := after (w0 := w) hb (by go_grown); have z30 : w.heap.size < w3.heap.size := hz3 _ (by go_size); have z31 : w2.heap.size < w3.heap.size := hz3 _ (by go_size); have y31 := Nat.le_of_lt z31; have x31 : w2.heap.size ≤ w3.heap.size + 1 := Nat.le_succ_of_le y31; clear hb hz3
    have b2 := hX.2.2.1
    have b3 := hX.2.2.2.1
    go_wp2_with fail
    refine (rOf (bl / 2) _).mono ?_
    rintro e w4 ⟨rfl, hb⟩
    obtain ⟨hB4, hs4, hc4, hf4, hz4⟩ := after (w0 := w) hb (by go_grown); have z40 : w.heap.size < w4.heap.size := hz4 _ (by go_size); have z41 : w2.heap.size < w4.heap.size := hz4 _ (by go_size); have y41 := Nat.le_of_lt z41; have x41 : w2.heap.size ≤ w4.heap.size + 1 := Nat.le_succ_of_le y41; have z42 : w3.heap.size < w4.heap.size := hz4 _ (by go_size); have y42 := Nat.le_of_lt z42; have x42 : w3.heap.size ≤ w4.heap.size + 1 := Nat.le_succ_of_le y42; clear hb hz4
    have hm : IsU 0 (bl / 2) (bl / 2) := IsU.of_lo ⟨by omega, by omega⟩
    go_wp2_with fail
    refine (rMulSmall_fit 0 (bl / 2) _ 2 hm ⟨by decide, by decide⟩ (by omega) _).mono ?_
    rintro e w5 ⟨ph, pl, rfl, hp, hb⟩
    obtain ⟨hB5, hs5, hc5, hf5, hz5⟩ := after (w0 := w) hb (by go_grown); have z50 : w.heap.size < w5.heap.size := hz5 _ (by go_size); have z51 : w2.heap.size < w5.heap.size := hz5 _ (by go_size); have y51 := Nat.le_of_lt z51; have x51 : w2.heap.size ≤ w5.heap.size + 1 := Nat.le_succ_of_le y51; have z52 : w3.heap.size < w5.heap.size := hz5 _ (by go_size); have y52 := Nat.le_of_lt z52; have x52 : w3.heap.size ≤ w5.heap.size + 1 := Nat.le_succ_of_le y52; clear hb hz5
    go_wp2_with fail
    go_region_with (first
        | (go_at_call 23; refine (rOf 1 _).mono ?_; rintro e w6 ⟨rfl, hb⟩; obtain ⟨hB6, hs6, hc6, hf6, hz6⟩ := after (w0 := w) hb (by go_grown); have z60 : w.heap.size < w6.heap.size := hz6 _ (by go_size); have z61 : w2.heap.size < w6.heap.size := hz6 _ (by go_size); have y61 := Nat.le_of_lt z61; have x61 : w2.heap.size ≤ w6.heap.size + 1 := Nat.le_succ_of_le y61; have z62 : w3.heap.size < w6.heap.size := hz6 _ (by go_size); have y62 := Nat.le_of_lt z62; have x62 : w3.heap.size ≤ w6.heap.size + 1 := Nat.le_succ_of_le y62; have z63 : w5.heap.size < w6.heap.size := hz6 _ (by go_size); have y63 := Nat.le_of_lt z63; have x63 : w5.heap.size ≤ w6.heap.size + 1 := Nat.le_succ_of_le y63; clear hb hz6)
        | (go_at_call 22; refine (rAdd_fit ph pl _ 0 1 1 hp (by exact IsU.of_lo ⟨by decide, by decide⟩) (by omega) _).mono ?_; rintro e w7 ⟨th, tl, rfl, ht, hb⟩; obtain ⟨hB7, hs7, hc7, hf7, hz7⟩ := after (w0 := w) hb (by go_grown); have z70 : w.heap.size < w7.heap.size := hz7 _ (by go_size); have z71 : w2.heap.size < w7.heap.size := hz7 _ (by go_size); have y71 := Nat.le_of_lt z71; have x71 : w2.heap.size ≤ w7.heap.size + 1 := Nat.le_succ_of_le y71; have z72 : w3.heap.size < w7.heap.size := hz7 _ (by go_size); have y72 := Nat.le_of_lt z72; have x72 : w3.heap.size ≤ w7.heap.size + 1 := Nat.le_succ_of_le y72; have z73 : w5.heap.size < w7.heap.size := hz7 _ (by go_size); have y73 := Nat.le_of_lt z73; have x73 : w5.heap.size ≤ w7.heap.size + 1 := Nat.le_succ_of_le y73; clear hb hz7))
    all_goals
      have hhalf : halfI (bl / 2 * 2 + 1) 2 = bl / 2 + 1 := half_odd (bl / 2)
      go_wp2_with fail
      refine (wHalf th tl _ 2 ht (by decide) (by decide) _).mono ?_
      rintro e w8 ⟨zh, zl, rfl, hz, hb⟩
      obtain ⟨hB8, hs8, hc8, hf8, hz8⟩ := after (w0 := w) hb (by go_grown); have z80 : w.heap.size < w8.heap.size := hz8 _ (by go_size); have z81 : w2.heap.size < w8.heap.size := hz8 _ (by go_size); have y81 := Nat.le_of_lt z81; have x81 : w2.heap.size ≤ w8.heap.size + 1 := Nat.le_succ_of_le y81; have z82 : w3.heap.size < w8.heap.size := hz8 _ (by go_size); have y82 := Nat.le_of_lt z82; have x82 : w3.heap.size ≤ w8.heap.size + 1 := Nat.le_succ_of_le y82; have z83 : w5.heap.size < w8.heap.size := hz8 _ (by go_size); have y83 := Nat.le_of_lt z83; have x83 : w5.heap.size ≤ w8.heap.size + 1 := Nat.le_succ_of_le y83; clear hb hz8
      rw [hhalf] at hz
      clear hhalf
      have hz2 : zh = 0 ∧ zl = bl / 2 + 1 := by
        obtain ⟨_, _, _, _, _⟩ := hz
        omega
      obtain ⟨rfl, rfl⟩ := hz2
      go_wp2_with fail
      have c0 : (w8.alloc (.cells #[.int .u64 0, .int .u64 (bl / 2 + 1)] 24)).cell? ⟨w2.heap.size, 0, none⟩ = some (.int .u64 0) := by simp (maxDischargeDepth := 8) [go_sem, *]
      have c1 : (w8.alloc (.cells #[.int .u64 0, .int .u64 (bl / 2 + 1)] 24)).cell? ⟨w2.heap.size, 1, none⟩ = some (.int .u64 0) := by simp (maxDischargeDepth := 8) [go_sem, *]
      have c2 : (w8.alloc (.cells #[.int .u64 0, .int .u64 (bl / 2 + 1)] 24)).cell? ⟨w3.heap.size, 0, none⟩ = some (.int .u64 0) := by simp (maxDischargeDepth := 8) [go_sem, *]
      have c3 : (w8.alloc (.cells #[.int .u64 0, .int .u64 (bl / 2 + 1)] 24)).cell? ⟨w3.heap.size, 1, none⟩ = some (.int .u64 0) := by simp (maxDischargeDepth := 8) [go_sem, *]
      have c4 : (w8.alloc (.cells #[.int .u64 0, .int .u64 (bl / 2 + 1)] 24)).cell? ⟨w8.heap.size, 0, none⟩ = some (.int .u64 0) := by simp (maxDischargeDepth := 8) [go_sem, *]
      have c5 : (w8.alloc (.cells #[.int .u64 0, .int .u64 (bl / 2 + 1)] 24)).cell? ⟨w8.heap.size, 1, none⟩ = some (.int .u64 (bl / 2 + 1)) := by simp (maxDischargeDepth := 8) [go_sem, *]
      have c6 : (w8.alloc (.cells #[.int .u64 0, .int .u64 (bl / 2 + 1)] 24)).cell? ⟨w.heap.size, 1, none⟩ = some (.int .u64 bl) := by simp (maxDischargeDepth := 8) [go_sem, *]
      have hw : IntKind.u64.wrap (bl / 2 + 1) = bl / 2 + 1 := IntWalk.u64_in _ (by omega)
      go_region_held3 (fun w' => w'.cell? ⟨w2.heap.size, 0, none⟩ = some (.int .u64 0) ∧ w'.cell? ⟨w2.heap.size, 1, none⟩ = some (.int .u64 0) ∧ w'.cell? ⟨w3.heap.size, 0, none⟩ = some (.int .u64 0) ∧ w'.cell? ⟨w3.heap.size, 1, none⟩ = some (.int .u64 0) ∧ w'.cell? ⟨w8.heap.size, 0, none⟩ = some (.int .u64 0) ∧ w'.cell? ⟨w8.heap.size, 1, none⟩ = some (.int .u64 (bl / 2 + 1)) ∧ w'.cell? ⟨w.heap.size, 1, none⟩ = some (.int .u64 bl)) (exact ⟨c0, c1, c2, c3, c4, c5, c6⟩)
        (first
          | (go_at_call 17; refine (lAwake02 _).mono ?_; rintro e w9 ⟨rfl, hb⟩; obtain ⟨hB9, hs9, hc9, hf9, hz9⟩ := after (w0 := w) hb (by go_grown); have z90 : w.heap.size < w9.heap.size := hz9 _ (by go_size); have z91 : w2.heap.size < w9.heap.size := hz9 _ (by go_size); have y91 := Nat.le_of_lt z91; have x91 : w2.heap.size ≤ w9.heap.size + 1 := Nat.le_succ_of_le y91; have z92 : w3.heap.size < w9.heap.size := hz9 _ (by go_size); have y92 := Nat.le_of_lt z92; have x92 : w3.heap.size ≤ w9.heap.size + 1 := Nat.le_succ_of_le y92; have z93 : w8.heap.size < w9.heap.size := hz9 _ (by go_size); have y93 := Nat.le_of_lt z93; have x93 : w8.heap.size ≤ w9.heap.size + 1 := Nat.le_succ_of_le y93; replace c0 := (hc9 (w2.heap.size) 0 (by go_size)).trans c0; replace c1 := (hc9 (w2.heap.size) 1 (by go_size)).trans c1; replace c2 := (hc9 (w3.heap.size) 0 (by go_size)).trans c2; replace c3 := (hc9 (w3.heap.size) 1 (by go_size)).trans c3; replace c4 := (hc9 (w8.heap.size) 0 (by go_size)).trans c4; replace c5 := (hc9 (w8.heap.size) 1 (by go_size)).trans c5; replace c6 := (hc9 (w.heap.size) 1 (by go_size)).trans c6; clear hc9 hf9; clear hb hz9)
          | (go_at_call 23; refine (rOf (bl / 2 + 1) _).mono ?_; rintro e w10 ⟨rfl, hb⟩; obtain ⟨hB10, hs10, hc10, hf10, hz10⟩ := after (w0 := w) hb (by go_grown); have z100 : w.heap.size < w10.heap.size := hz10 _ (by go_size); have z101 : w2.heap.size < w10.heap.size := hz10 _ (by go_size); have y101 := Nat.le_of_lt z101; have x101 : w2.heap.size ≤ w10.heap.size + 1 := Nat.le_succ_of_le y101; have z102 : w3.heap.size < w10.heap.size := hz10 _ (by go_size); have y102 := Nat.le_of_lt z102; have x102 : w3.heap.size ≤ w10.heap.size + 1 := Nat.le_succ_of_le y102; have z103 : w8.heap.size < w10.heap.size := hz10 _ (by go_size); have y103 := Nat.le_of_lt z103; have x103 : w8.heap.size ≤ w10.heap.size + 1 := Nat.le_succ_of_le y103; replace c0 := (hc10 (w2.heap.size) 0 (by go_size)).trans c0; replace c1 := (hc10 (w2.heap.size) 1 (by go_size)).trans c1; replace c2 := (hc10 (w3.heap.size) 0 (by go_size)).trans c2; replace c3 := (hc10 (w3.heap.size) 1 (by go_size)).trans c3; replace c4 := (hc10 (w8.heap.size) 0 (by go_size)).trans c4; replace c5 := (hc10 (w8.heap.size) 1 (by go_size)).trans c5; replace c6 := (hc10 (w.heap.size) 1 (by go_size)).trans c6; clear hc10 hf10; clear hb hz10))
      clear hw
      go_wp2
      go_ret
      exact ⟨rfl, by go_grown⟩
  · have hd1 : 1 ≤ d := by omega
    clear hz
    go_wp2_with fail
    refine (wHalf bh bl X d hX hd1 d1 _).mono ?_
    rintro e w2 ⟨xh, xl, rfl, hx, hb⟩
    obtain ⟨hB2, hs2, hc2, hf2, hz2⟩ := after (w0 := w) hb (by go_grown); have z20 : w.heap.size < w2.heap.size := hz2 _ (by go_size); clear hb hz2
    go_wp2_with fail
    refine (rHalfWide bh bl X d hX hd1 d1 _).mono ?_
    rintro e w3 ⟨yh, yl, rfl, hy, hb⟩
    obtain ⟨hB3, hs3, hc3, hf3, hz3⟩ := after (w0 := w) hb (by go_grown); have z30 : w.heap.size < w3.heap.size := hz3 _ (by go_size); have z31 : w2.heap.size < w3.heap.size := hz3 _ (by go_size); have y31 := Nat.le_of_lt z31; have x31 : w2.heap.size ≤ w3.heap.size + 1 := Nat.le_succ_of_le y31; clear hb hz3
    obtain ⟨rfl, rfl⟩ := hx.ext hy
    clear hx hy
    have b2 := hX.2.2.1
    have b3 := hX.2.2.2.1
    go_wp2_with fail
    refine (rOf (bl / 2) _).mono ?_
    rintro e w4 ⟨rfl, hb⟩
    obtain ⟨hB4, hs4, hc4, hf4, hz4⟩ := after (w0 := w) hb (by go_grown); have z40 : w.heap.size < w4.heap.size := hz4 _ (by go_size); have z41 : w2.heap.size < w4.heap.size := hz4 _ (by go_size); have y41 := Nat.le_of_lt z41; have x41 : w2.heap.size ≤ w4.heap.size + 1 := Nat.le_succ_of_le y41; have z42 : w3.heap.size < w4.heap.size := hz4 _ (by go_size); have y42 := Nat.le_of_lt z42; have x42 : w3.heap.size ≤ w4.heap.size + 1 := Nat.le_succ_of_le y42; clear hb hz4
    have hm : IsU 0 (bl / 2) (bl / 2) := IsU.of_lo ⟨by omega, by omega⟩
    go_wp2_with fail
    refine (rMulSmall_fit 0 (bl / 2) _ 2 hm ⟨by decide, by decide⟩ (by omega) _).mono ?_
    rintro e w5 ⟨ph, pl, rfl, hp, hb⟩
    obtain ⟨hB5, hs5, hc5, hf5, hz5⟩ := after (w0 := w) hb (by go_grown); have z50 : w.heap.size < w5.heap.size := hz5 _ (by go_size); have z51 : w2.heap.size < w5.heap.size := hz5 _ (by go_size); have y51 := Nat.le_of_lt z51; have x51 : w2.heap.size ≤ w5.heap.size + 1 := Nat.le_succ_of_le y51; have z52 : w3.heap.size < w5.heap.size := hz5 _ (by go_size); have y52 := Nat.le_of_lt z52; have x52 : w3.heap.size ≤ w5.heap.size + 1 := Nat.le_succ_of_le y52; clear hb hz5
    go_wp2_with fail
    go_region_with (first
        | (go_at_call 23; refine (rOf 1 _).mono ?_; rintro e w6 ⟨rfl, hb⟩; obtain ⟨hB6, hs6, hc6, hf6, hz6⟩ := after (w0 := w) hb (by go_grown); have z60 : w.heap.size < w6.heap.size := hz6 _ (by go_size); have z61 : w2.heap.size < w6.heap.size := hz6 _ (by go_size); have y61 := Nat.le_of_lt z61; have x61 : w2.heap.size ≤ w6.heap.size + 1 := Nat.le_succ_of_le y61; have z62 : w3.heap.size < w6.heap.size := hz6 _ (by go_size); have y62 := Nat.le_of_lt z62; have x62 : w3.heap.size ≤ w6.heap.size + 1 := Nat.le_succ_of_le y62; have z63 : w5.heap.size < w6.heap.size := hz6 _ (by go_size); have y63 := Nat.le_of_lt z63; have x63 : w5.heap.size ≤ w6.heap.size + 1 := Nat.le_succ_of_le y63; clear hb hz6)
        | (go_at_call 22; refine (rAdd_fit ph pl _ 0 1 1 hp (by exact IsU.of_lo ⟨by decide, by decide⟩) (by omega) _).mono ?_; rintro e w7 ⟨th, tl, rfl, ht, hb⟩; obtain ⟨hB7, hs7, hc7, hf7, hz7⟩ := after (w0 := w) hb (by go_grown); have z70 : w.heap.size < w7.heap.size := hz7 _ (by go_size); have z71 : w2.heap.size < w7.heap.size := hz7 _ (by go_size); have y71 := Nat.le_of_lt z71; have x71 : w2.heap.size ≤ w7.heap.size + 1 := Nat.le_succ_of_le y71; have z72 : w3.heap.size < w7.heap.size := hz7 _ (by go_size); have y72 := Nat.le_of_lt z72; have x72 : w3.heap.size ≤ w7.heap.size + 1 := Nat.le_succ_of_le y72; have z73 : w5.heap.size < w7.heap.size := hz7 _ (by go_size); have y73 := Nat.le_of_lt z73; have x73 : w5.heap.size ≤ w7.heap.size + 1 := Nat.le_succ_of_le y73; clear hb hz7))
    all_goals
      have hhalf : halfI (bl / 2 * 2 + 1) 2 = bl / 2 + 1 := half_odd (bl / 2)
      go_wp2_with fail
      refine (wHalf th tl _ 2 ht (by decide) (by decide) _).mono ?_
      rintro e w8 ⟨zh, zl, rfl, hz, hb⟩
      obtain ⟨hB8, hs8, hc8, hf8, hz8⟩ := after (w0 := w) hb (by go_grown); have z80 : w.heap.size < w8.heap.size := hz8 _ (by go_size); have z81 : w2.heap.size < w8.heap.size := hz8 _ (by go_size); have y81 := Nat.le_of_lt z81; have x81 : w2.heap.size ≤ w8.heap.size + 1 := Nat.le_succ_of_le y81; have z82 : w3.heap.size < w8.heap.size := hz8 _ (by go_size); have y82 := Nat.le_of_lt z82; have x82 : w3.heap.size ≤ w8.heap.size + 1 := Nat.le_succ_of_le y82; have z83 : w5.heap.size < w8.heap.size := hz8 _ (by go_size); have y83 := Nat.le_of_lt z83; have x83 : w5.heap.size ≤ w8.heap.size + 1 := Nat.le_succ_of_le y83; clear hb hz8
      rw [hhalf] at hz
      clear hhalf
      have hz2 : zh = 0 ∧ zl = bl / 2 + 1 := by
        obtain ⟨_, _, _, _, _⟩ := hz
        omega
      obtain ⟨rfl, rfl⟩ := hz2
      go_wp2_with fail
      have c0 : (w8.alloc (.cells #[.int .u64 0, .int .u64 (bl / 2 + 1)] 24)).cell? ⟨w2.heap.size, 0, none⟩ = some (.int .u64 xh) := by simp (maxDischargeDepth := 8) [go_sem, *]
      have c1 : (w8.alloc (.cells #[.int .u64 0, .int .u64 (bl / 2 + 1)] 24)).cell? ⟨w2.heap.size, 1, none⟩ = some (.int .u64 xl) := by simp (maxDischargeDepth := 8) [go_sem, *]
      have c2 : (w8.alloc (.cells #[.int .u64 0, .int .u64 (bl / 2 + 1)] 24)).cell? ⟨w3.heap.size, 0, none⟩ = some (.int .u64 xh) := by simp (maxDischargeDepth := 8) [go_sem, *]
      have c3 : (w8.alloc (.cells #[.int .u64 0, .int .u64 (bl / 2 + 1)] 24)).cell? ⟨w3.heap.size, 1, none⟩ = some (.int .u64 xl) := by simp (maxDischargeDepth := 8) [go_sem, *]
      have c4 : (w8.alloc (.cells #[.int .u64 0, .int .u64 (bl / 2 + 1)] 24)).cell? ⟨w8.heap.size, 0, none⟩ = some (.int .u64 0) := by simp (maxDischargeDepth := 8) [go_sem, *]
      have c5 : (w8.alloc (.cells #[.int .u64 0, .int .u64 (bl / 2 + 1)] 24)).cell? ⟨w8.heap.size, 1, none⟩ = some (.int .u64 (bl / 2 + 1)) := by simp (maxDischargeDepth := 8) [go_sem, *]
      have c6 : (w8.alloc (.cells #[.int .u64 0, .int .u64 (bl / 2 + 1)] 24)).cell? ⟨w.heap.size, 1, none⟩ = some (.int .u64 bl) := by simp (maxDischargeDepth := 8) [go_sem, *]
      have hw : IntKind.u64.wrap (bl / 2 + 1) = bl / 2 + 1 := IntWalk.u64_in _ (by omega)
      go_region_held3 (fun w' => w'.cell? ⟨w2.heap.size, 0, none⟩ = some (.int .u64 xh) ∧ w'.cell? ⟨w2.heap.size, 1, none⟩ = some (.int .u64 xl) ∧ w'.cell? ⟨w3.heap.size, 0, none⟩ = some (.int .u64 xh) ∧ w'.cell? ⟨w3.heap.size, 1, none⟩ = some (.int .u64 xl) ∧ w'.cell? ⟨w8.heap.size, 0, none⟩ = some (.int .u64 0) ∧ w'.cell? ⟨w8.heap.size, 1, none⟩ = some (.int .u64 (bl / 2 + 1)) ∧ w'.cell? ⟨w.heap.size, 1, none⟩ = some (.int .u64 bl)) (exact ⟨c0, c1, c2, c3, c4, c5, c6⟩)
        (first
          | (go_at_call 17; refine (lAwake02 _).mono ?_; rintro e w9 ⟨rfl, hb⟩; obtain ⟨hB9, hs9, hc9, hf9, hz9⟩ := after (w0 := w) hb (by go_grown); have z90 : w.heap.size < w9.heap.size := hz9 _ (by go_size); have z91 : w2.heap.size < w9.heap.size := hz9 _ (by go_size); have y91 := Nat.le_of_lt z91; have x91 : w2.heap.size ≤ w9.heap.size + 1 := Nat.le_succ_of_le y91; have z92 : w3.heap.size < w9.heap.size := hz9 _ (by go_size); have y92 := Nat.le_of_lt z92; have x92 : w3.heap.size ≤ w9.heap.size + 1 := Nat.le_succ_of_le y92; have z93 : w8.heap.size < w9.heap.size := hz9 _ (by go_size); have y93 := Nat.le_of_lt z93; have x93 : w8.heap.size ≤ w9.heap.size + 1 := Nat.le_succ_of_le y93; replace c0 := (hc9 (w2.heap.size) 0 (by go_size)).trans c0; replace c1 := (hc9 (w2.heap.size) 1 (by go_size)).trans c1; replace c2 := (hc9 (w3.heap.size) 0 (by go_size)).trans c2; replace c3 := (hc9 (w3.heap.size) 1 (by go_size)).trans c3; replace c4 := (hc9 (w8.heap.size) 0 (by go_size)).trans c4; replace c5 := (hc9 (w8.heap.size) 1 (by go_size)).trans c5; replace c6 := (hc9 (w.heap.size) 1 (by go_size)).trans c6; clear hc9 hf9; clear hb hz9)
          | (go_at_call 23; refine (rOf (bl / 2 + 1) _).mono ?_; rintro e w10 ⟨rfl, hb⟩; obtain ⟨hB10, hs10, hc10, hf10, hz10⟩ := after (w0 := w) hb (by go_grown); have z100 : w.heap.size < w10.heap.size := hz10 _ (by go_size); have z101 : w2.heap.size < w10.heap.size := hz10 _ (by go_size); have y101 := Nat.le_of_lt z101; have x101 : w2.heap.size ≤ w10.heap.size + 1 := Nat.le_succ_of_le y101; have z102 : w3.heap.size < w10.heap.size := hz10 _ (by go_size); have y102 := Nat.le_of_lt z102; have x102 : w3.heap.size ≤ w10.heap.size + 1 := Nat.le_succ_of_le y102; have z103 : w8.heap.size < w10.heap.size := hz10 _ (by go_size); have y103 := Nat.le_of_lt z103; have x103 : w8.heap.size ≤ w10.heap.size + 1 := Nat.le_succ_of_le y103; replace c0 := (hc10 (w2.heap.size) 0 (by go_size)).trans c0; replace c1 := (hc10 (w2.heap.size) 1 (by go_size)).trans c1; replace c2 := (hc10 (w3.heap.size) 0 (by go_size)).trans c2; replace c3 := (hc10 (w3.heap.size) 1 (by go_size)).trans c3; replace c4 := (hc10 (w8.heap.size) 0 (by go_size)).trans c4; replace c5 := (hc10 (w8.heap.size) 1 (by go_size)).trans c5; replace c6 := (hc10 (w.heap.size) 1 (by go_size)).trans c6; clear hc10 hf10; clear hb hz10))
      clear hw
      go_wp2
      go_ret
      exact ⟨rfl, by go_grown⟩
end Go.Proofs.Ytjgbkjkckhaheaa
