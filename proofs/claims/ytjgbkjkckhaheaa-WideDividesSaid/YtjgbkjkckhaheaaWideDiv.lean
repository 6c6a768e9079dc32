/- compositorlaw02.WideDivides: the walk. Every input. -/
import Derived.Test.YtjgbkjkckhaheaaBoth
import Derived.Test.YtjgbkjkckhaheaaLaw02c
import Derived.Deep.DeepCutAuto
import Derived.BigRegion
namespace Go.Proofs.Ytjgbkjkckhaheaa
open Go.RowKit

set_option maxRecDepth 100000 in
set_option maxHeartbeats 16000000 in
theorem lDivides (ah al d k : Int) (h0 : IsW ah) (h1 : IsW al) (hd : IsW d) (k0 : -9223372036854775808 ≤ k) (k1 : k ≤ 9223372036854775807) (w : World) :
    Calls Try.prog 4 #[.agg #[.int .u64 ah, .int .u64 al], .int .u64 d, .int .i64 k] w (RetV (.bool true) w) := by
  have u1 : IsU ah al (ah * 18446744073709551616 + al) := ⟨h0.1, h0.2, h1.1, h1.2, rfl⟩
  by_cases hz : d = 0
  · subst hz
    go_enter Try.func4, Try.ntmps4
    go_wp2_with fail
    refine (lNear ah al _ k u1 k0 k1 _).mono ?_
    rintro e w1 ⟨bh, bl, X, rfl, hX, hb⟩
    obtain ⟨hB1, hs1, hc1, hf1, hz1⟩ := after (w0 := w) hb (by go_grown); have z10 : w.heap.size < w1.heap.size := hz1 _ (by go_size); clear hb hz1
    go_wp2_with fail
    refine (wDivMod_0 bh bl _).mono ?_
    rintro e w2 ⟨rfl, hb⟩
    obtain ⟨hB2, hs2, hc2, hf2, hz2⟩ := after (w0 := w) hb (by go_grown); have z20 : w.heap.size < w2.heap.size := hz2 _ (by go_size); clear hb hz2
    go_wp2_with fail
    refine (lAwake02 _).mono ?_
    rintro e w3 ⟨rfl, hb⟩
    obtain ⟨hB3, hs3, hc3, hf3, hz3⟩ := after (w0 := w) hb (by go_grown); have z30 : w.heap.size < w3.heap.size := hz3 _ (by go_size); have z31 : w2.heap.size < w3.heap.size := hz3 _ (by go_size); have y31 := Nat.le_of_lt z31; have x31 : w2.heap.size ≤ w3.heap.size + 1 := Nat.le_succ_of_le y31; clear hb hz3
    go_wp2
    go_ret
    exact ⟨rfl, by go_grown⟩
  · have d0 := hd.1
    have d1 := hd.2
    have hd1 : 1 ≤ d := by omega
    have hz' : (d == 0) = false := by rw [beq_eq_false_iff_ne]; exact hz
    clear hz
    go_enter Try.func4, Try.ntmps4
    go_wp2_with fail
    refine (lNear ah al _ k u1 k0 k1 _).mono ?_
    rintro e w1 ⟨bh, bl, X, rfl, hX, hb⟩
    obtain ⟨hB1, hs1, hc1, hf1, hz1⟩ := after (w0 := w) hb (by go_grown); have z10 : w.heap.size < w1.heap.size := hz1 _ (by go_size); clear hb hz1
    go_wp2_with fail
    refine (wDivMod bh bl X d hX hd1 d1 _).mono ?_
    rintro e w2 ⟨qh, ql, r, q, rfl, hq, hqr, r0, r1, hb⟩
    obtain ⟨hB2, hs2, hc2, hf2, hz2⟩ := after (w0 := w) hb (by go_grown); have z20 : w.heap.size < w2.heap.size := hz2 _ (by go_size); clear hb hz2
    have HQ := Lib.hid hqr
    clear hqr
    go_wp2_with fail
    refine (rMulSmall_fit qh ql q d hq hd (by have := HQ.out; have := hX.lt; omega) _).mono ?_
    rintro e w3 ⟨ph, pl, rfl, hp, hb⟩
    obtain ⟨hB3, hs3, hc3, hf3, hz3⟩ := after (w0 := w) hb (by go_grown); have z30 : w.heap.size < w3.heap.size := hz3 _ (by go_size); have y30 := Nat.le_of_lt z30; have x30 : w.heap.size ≤ w3.heap.size + 1 := Nat.le_succ_of_le y30; have z31 : w2.heap.size < w3.heap.size := hz3 _ (by go_size); have y31 := Nat.le_of_lt z31; have x31 : w2.heap.size ≤ w3.heap.size + 1 := Nat.le_succ_of_le y31; have m3 : w3.heap.size ≤ w3.heap.size + 1 := Nat.le_succ _; have n3 : w3.heap.size < w3.heap.size + 1 + 1 := (by omega); clear hb hz3
    have hr : IsU 0 r r := IsU.of_lo ⟨r0, by omega⟩
    go_wp2_with fail
    go_region_held3 (fun w' => w'.cell? ⟨w3.heap.size, 0, none⟩ = some (.int .u64 ph) ∧ w'.cell? ⟨w3.heap.size, 1, none⟩ = some (.int .u64 pl)) ((first | exact ⟨c0, c1⟩ | (simp (maxDischargeDepth := 8) [go_sem, *]; done)))
      (first
        | (go_at_call 23; refine (rOf r _).mono ?_; rintro e w4 ⟨rfl, hb⟩; obtain ⟨hB4, hs4, hc4, hf4, hz4⟩ := after (w0 := w) hb (by go_grown); have z40 : w.heap.size < w4.heap.size := hz4 _ (by go_size); have y40 := Nat.le_of_lt z40; have x40 : w.heap.size ≤ w4.heap.size + 1 := Nat.le_succ_of_le y40; have z41 : w2.heap.size < w4.heap.size := hz4 _ (by go_size); have y41 := Nat.le_of_lt z41; have x41 : w2.heap.size ≤ w4.heap.size + 1 := Nat.le_succ_of_le y41; have z42 : w3.heap.size < w4.heap.size := hz4 _ (by go_size); have y42 := Nat.le_of_lt z42; have x42 : w3.heap.size ≤ w4.heap.size + 1 := Nat.le_succ_of_le y42; have m4 : w4.heap.size ≤ w4.heap.size + 1 := Nat.le_succ _; have n4 : w4.heap.size < w4.heap.size + 1 + 1 := (by omega); clear hb)
        | (go_at_call 22; refine (rAdd_fit ph pl _ 0 r r hp hr (by have := HQ.out; have := hX.lt; omega) _).mono ?_; rintro e w5 ⟨sh, sl, rfl, hs, hb⟩; obtain ⟨hB5, hs5, hc5, hf5, hz5⟩ := after (w0 := w) hb (by go_grown); have z50 : w.heap.size < w5.heap.size := hz5 _ (by go_size); have y50 := Nat.le_of_lt z50; have x50 : w.heap.size ≤ w5.heap.size + 1 := Nat.le_succ_of_le y50; have z51 : w2.heap.size < w5.heap.size := hz5 _ (by go_size); have y51 := Nat.le_of_lt z51; have x51 : w2.heap.size ≤ w5.heap.size + 1 := Nat.le_succ_of_le y51; have z52 : w3.heap.size < w5.heap.size := hz5 _ (by go_size); have y52 := Nat.le_of_lt z52; have x52 : w3.heap.size ≤ w5.heap.size + 1 := Nat.le_succ_of_le y52; have m5 : w5.heap.size ≤ w5.heap.size + 1 := Nat.le_succ _; have n5 : w5.heap.size < w5.heap.size + 1 + 1 := (by omega); clear hb))
    · obtain ⟨rfl, rfl⟩ := IsU.ext (h := bh) (l := bl) hX (by rw [HQ.out] at hs; exact hs)
      clear hz5 hz4
      go_wp2_with fail
      refine (lAwake02 _).mono ?_
      rintro e w6 ⟨rfl, hb⟩
      obtain ⟨hB6, hs6, hc6, hf6, hz6⟩ := after (w0 := w) hb (by go_grown); have z60 : w.heap.size < w6.heap.size := hz6 _ (by go_size); have y60 := Nat.le_of_lt z60; have x60 : w.heap.size ≤ w6.heap.size + 1 := Nat.le_succ_of_le y60; have z61 : w2.heap.size < w6.heap.size := hz6 _ (by go_size); have y61 := Nat.le_of_lt z61; have x61 : w2.heap.size ≤ w6.heap.size + 1 := Nat.le_succ_of_le y61; have z62 : w3.heap.size < w6.heap.size := hz6 _ (by go_size); have y62 := Nat.le_of_lt z62; have x62 : w3.heap.size ≤ w6.heap.size + 1 := Nat.le_succ_of_le y62; have z63 : w5.heap.size < w6.heap.size := hz6 _ (by go_size); have y63 := Nat.le_of_lt z63; have x63 : w5.heap.size ≤ w6.heap.size + 1 := Nat.le_succ_of_le y63; have m6 : w6.heap.size ≤ w6.heap.size + 1 := Nat.le_succ _; have n6 : w6.heap.size < w6.heap.size + 1 + 1 := (by omega); clear hb hz6
      go_wp2
      go_ret
      exact ⟨rfl, by go_grown⟩
    · have z : w4.heap.size < w5.heap.size := hz5 _ (by go_size)
      obtain ⟨rfl, rfl⟩ := IsU.ext (h := bh) (l := bl) hX (by rw [HQ.out] at hs; exact hs)
      clear hz5 hz4
      go_wp2_with fail
      refine (lAwake02 _).mono ?_
      rintro e w6 ⟨rfl, hb⟩
      obtain ⟨hB6, hs6, hc6, hf6, hz6⟩ := after (w0 := w) hb (by go_grown); have z60 : w.heap.size < w6.heap.size := hz6 _ (by go_size); have y60 := Nat.le_of_lt z60; have x60 : w.heap.size ≤ w6.heap.size + 1 := Nat.le_succ_of_le y60; have z61 : w2.heap.size < w6.heap.size := hz6 _ (by go_size); have y61 := Nat.le_of_lt z61; have x61 : w2.heap.size ≤ w6.heap.size + 1 := Nat.le_succ_of_le y61; have z62 : w3.heap.size < w6.heap.size := hz6 _ (by go_size); have y62 := Nat.le_of_lt z62; have x62 : w3.heap.size ≤ w6.heap.size + 1 := Nat.le_succ_of_le y62; have z63 : w4.heap.size < w6.heap.size := hz6 _ (by go_size); have y63 := Nat.le_of_lt z63; have x63 : w4.heap.size ≤ w6.heap.size + 1 := Nat.le_succ_of_le y63; have m6 : w6.heap.size ≤ w6.heap.size + 1 := Nat.le_succ _; have n6 : w6.heap.size < w6.heap.size + 1 + 1 := (by omega); clear hb hz6
      go_wp2
      go_ret
      exact ⟨rfl, by go_grown⟩
    · have z4 : w3.heap.size + 1 < w4.heap.size := hz4 _ (by go_size)
      have z : w3.heap.size + 1 < w5.heap.size := hz5 _ (by go_size)
      have d0 : w4.cell? ⟨w.heap.size, 0, none⟩ = some (.int .u64 bh) := (hc4 _ _ (by go_size)).trans (by simp (maxDischargeDepth := 8) [go_sem, *])
      have d1 : w4.cell? ⟨w.heap.size, 1, none⟩ = some (.int .u64 bl) := (hc4 _ _ (by go_size)).trans (by simp (maxDischargeDepth := 8) [go_sem, *])
      have e0 : w4.cell? ⟨w3.heap.size + 1, 0, none⟩ = some (.int .u64 0) := (hc4 _ _ (by go_size)).trans (by simp (maxDischargeDepth := 8) [go_sem, *])
      have f0 : w5.cell? ⟨w3.heap.size + 1, 0, none⟩ = some (.int .u64 0) := (hc5 _ _ z4).trans e0
      have e1 : w4.cell? ⟨w3.heap.size + 1, 1, none⟩ = some (.int .u64 0) := (hc4 _ _ (by go_size)).trans (by simp (maxDischargeDepth := 8) [go_sem, *])
      have f1 : w5.cell? ⟨w3.heap.size + 1, 1, none⟩ = some (.int .u64 0) := (hc5 _ _ z4).trans e1
      clear hc4
      obtain ⟨rfl, rfl⟩ := IsU.ext (h := bh) (l := bl) hX (by rw [HQ.out] at hs; exact hs)
      clear hz5 hz4
      go_wp2_with fail
      refine (lAwake02 _).mono ?_
      rintro e w6 ⟨rfl, hb⟩
      obtain ⟨hB6, hs6, hc6, hf6, hz6⟩ := after (w0 := w) hb (by go_grown); have z60 : w.heap.size < w6.heap.size := hz6 _ (by go_size); have y60 := Nat.le_of_lt z60; have x60 : w.heap.size ≤ w6.heap.size + 1 := Nat.le_succ_of_le y60; have z61 : w2.heap.size < w6.heap.size := hz6 _ (by go_size); have y61 := Nat.le_of_lt z61; have x61 : w2.heap.size ≤ w6.heap.size + 1 := Nat.le_succ_of_le y61; have z62 : w3.heap.size < w6.heap.size := hz6 _ (by go_size); have y62 := Nat.le_of_lt z62; have x62 : w3.heap.size ≤ w6.heap.size + 1 := Nat.le_succ_of_le y62; have z63 : w3.heap.size + 1 < w6.heap.size := hz6 _ (by go_size); have m6 : w6.heap.size ≤ w6.heap.size + 1 := Nat.le_succ _; have n6 : w6.heap.size < w6.heap.size + 1 + 1 := (by omega); clear hb hz6
      go_wp2
      go_ret
      exact ⟨rfl, by go_grown⟩
end Go.Proofs.Ytjgbkjkckhaheaa
