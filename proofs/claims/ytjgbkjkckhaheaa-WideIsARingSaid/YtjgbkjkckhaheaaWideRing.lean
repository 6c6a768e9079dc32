/- compositorlaw02.WideIsARing: the walk. Every input. -/
import Derived.Test.YtjgbkjkckhaheaaBoth
import Derived.Test.YtjgbkjkckhaheaaLaw02c
import Derived.Deep.DeepCutAuto
import Derived.BigRegion
namespace Go.Proofs.Ytjgbkjkckhaheaa
open Go.RowKit

set_option maxRecDepth 100000 in
set_option maxHeartbeats 16000000 in
theorem lRing (ah al bh bl ch cl n m : Int) (h0 : IsW ah) (h1 : IsW al) (h2 : IsW bh) (h3 : IsW bl) (h4 : IsW ch) (h5 : IsW cl) (hn : IsW n) (hm : IsW m) (w : World) :
    Calls Try.prog 7 #[.agg #[.int .u64 ah, .int .u64 al], .agg #[.int .u64 bh, .int .u64 bl], .agg #[.int .u64 ch, .int .u64 cl], .int .u64 n, .int .u64 m] w (RetV (.bool true) w) := by
  obtain ⟨a0, a1⟩ := h0
  obtain ⟨b0, b1⟩ := h2
  obtain ⟨c0, c1⟩ := h4
  go_enter Try.func7, Try.ntmps7
  go_wp2_with fail
  go_region
  have hA : IsU (ah / 4) al (ah / 4 * 18446744073709551616 + al) := ⟨by omega, by omega, h1.1, h1.2, rfl⟩
  have hB : IsU (bh / 4) bl (bh / 4 * 18446744073709551616 + bl) := ⟨by omega, by omega, h3.1, h3.2, rfl⟩
  have hC : IsU (ch / 4) cl (ch / 4 * 18446744073709551616 + cl) := ⟨by omega, by omega, h5.1, h5.2, rfl⟩
  have fA : ah / 4 * 18446744073709551616 + al < 85070591730234615865843651857942052864 := by have := h1.2; omega
  have fB : bh / 4 * 18446744073709551616 + bl < 85070591730234615865843651857942052864 := by have := h3.2; omega
  have fC : ch / 4 * 18446744073709551616 + cl < 85070591730234615865843651857942052864 := by have := h5.2; omega
  generalize ah / 4 * 18446744073709551616 + al = A at *
  generalize bh / 4 * 18446744073709551616 + bl = B at *
  generalize ch / 4 * 18446744073709551616 + cl = C at *
  go_wp2_with fail
  refine (wAdd_fit _ al A _ bl B hA hB (by omega) _).mono ?_
  rintro e w1 ⟨xh, xl, rfl, hX, hb⟩
  obtain ⟨hB1, hs1, hc1, hf1, hz1⟩ := after (w0 := w) hb (by go_grown); have z10 : w.heap.size < w1.heap.size := hz1 _ (by go_size); have z11 : w.heap.size + 1 < w1.heap.size := hz1 _ (by go_size); have z12 : w.heap.size + 1 + 1 < w1.heap.size := hz1 _ (by go_size); clear hb hz1
  go_wp2_with fail
  refine (wAdd_fit xh xl (A + B) _ cl C hX hC (by omega) _).mono ?_
  rintro e w2 ⟨yh, yl, rfl, hY, hb⟩
  obtain ⟨hB2, hs2, hc2, hf2, hz2⟩ := after (w0 := w) hb (by go_grown); have z20 : w.heap.size < w2.heap.size := hz2 _ (by go_size); have z21 : w.heap.size + 1 < w2.heap.size := hz2 _ (by go_size); have z22 : w.heap.size + 1 + 1 < w2.heap.size := hz2 _ (by go_size); have z23 : w1.heap.size < w2.heap.size := hz2 _ (by go_size); have y23 := Nat.le_of_lt z23; have x23 : w1.heap.size ≤ w2.heap.size + 1 := Nat.le_succ_of_le y23; clear hb hz2
  go_wp2_with fail
  refine (wAdd_fit _ bl B _ cl C hB hC (by omega) _).mono ?_
  rintro e w3 ⟨zh, zl, rfl, hZ, hb⟩
  obtain ⟨hB3, hs3, hc3, hf3, hz3⟩ := after (w0 := w) hb (by go_grown); have z30 : w.heap.size < w3.heap.size := hz3 _ (by go_size); have z31 : w.heap.size + 1 < w3.heap.size := hz3 _ (by go_size); have z32 : w.heap.size + 1 + 1 < w3.heap.size := hz3 _ (by go_size); have z33 : w1.heap.size < w3.heap.size := hz3 _ (by go_size); have y33 := Nat.le_of_lt z33; have x33 : w1.heap.size ≤ w3.heap.size + 1 := Nat.le_succ_of_le y33; have z34 : w2.heap.size < w3.heap.size := hz3 _ (by go_size); have y34 := Nat.le_of_lt z34; have x34 : w2.heap.size ≤ w3.heap.size + 1 := Nat.le_succ_of_le y34; clear hb hz3
  go_wp2_with fail
  refine (wAdd_fit _ al A zh zl (B + C) hA hZ (by omega) _).mono ?_
  rintro e w4 ⟨vh, vl, rfl, hV, hb⟩
  obtain ⟨hB4, hs4, hc4, hf4, hz4⟩ := after (w0 := w) hb (by go_grown); have z40 : w.heap.size < w4.heap.size := hz4 _ (by go_size); have z41 : w.heap.size + 1 < w4.heap.size := hz4 _ (by go_size); have z42 : w.heap.size + 1 + 1 < w4.heap.size := hz4 _ (by go_size); have z43 : w1.heap.size < w4.heap.size := hz4 _ (by go_size); have y43 := Nat.le_of_lt z43; have x43 : w1.heap.size ≤ w4.heap.size + 1 := Nat.le_succ_of_le y43; have z44 : w2.heap.size < w4.heap.size := hz4 _ (by go_size); have y44 := Nat.le_of_lt z44; have x44 : w2.heap.size ≤ w4.heap.size + 1 := Nat.le_succ_of_le y44; have z45 : w3.heap.size < w4.heap.size := hz4 _ (by go_size); have y45 := Nat.le_of_lt z45; have x45 : w3.heap.size ≤ w4.heap.size + 1 := Nat.le_succ_of_le y45; clear hb hz4
  obtain ⟨rfl, rfl⟩ := hY.ext (by rw [Int.add_assoc]; exact hV)
  go_wp2_with fail
  refine (wSub_fit xh xl (A + B) _ bl B hX hB (by have := hA.nn; omega) _).mono ?_
  rintro e w5 ⟨th, tl, rfl, hT, hb⟩
  obtain ⟨hB5, hs5, hc5, hf5, hz5⟩ := after (w0 := w) hb (by go_grown); have z50 : w.heap.size < w5.heap.size := hz5 _ (by go_size); have z51 : w.heap.size + 1 < w5.heap.size := hz5 _ (by go_size); have z52 : w.heap.size + 1 + 1 < w5.heap.size := hz5 _ (by go_size); have z53 : w1.heap.size < w5.heap.size := hz5 _ (by go_size); have y53 := Nat.le_of_lt z53; have x53 : w1.heap.size ≤ w5.heap.size + 1 := Nat.le_succ_of_le y53; have z54 : w2.heap.size < w5.heap.size := hz5 _ (by go_size); have y54 := Nat.le_of_lt z54; have x54 : w2.heap.size ≤ w5.heap.size + 1 := Nat.le_succ_of_le y54; have z55 : w3.heap.size < w5.heap.size := hz5 _ (by go_size); have y55 := Nat.le_of_lt z55; have x55 : w3.heap.size ≤ w5.heap.size + 1 := Nat.le_succ_of_le y55; have z56 : w4.heap.size < w5.heap.size := hz5 _ (by go_size); have y56 := Nat.le_of_lt z56; have x56 : w4.heap.size ≤ w5.heap.size + 1 := Nat.le_succ_of_le y56; clear hb hz5
  obtain ⟨et, rfl⟩ := IsU.ext (h := ah / 4) (l := al) hA (by rw [Int.add_sub_cancel] at hT; exact hT)
  subst et
  go_wp2_with fail
  refine (lAwake02 _).mono ?_
  rintro e w6 ⟨rfl, hb⟩
  obtain ⟨hB6, hs6, hc6, hf6, hz6⟩ := after (w0 := w) hb (by go_grown); have z60 : w.heap.size < w6.heap.size := hz6 _ (by go_size); have z61 : w.heap.size + 1 < w6.heap.size := hz6 _ (by go_size); have z62 : w.heap.size + 1 + 1 < w6.heap.size := hz6 _ (by go_size); have z63 : w1.heap.size < w6.heap.size := hz6 _ (by go_size); have y63 := Nat.le_of_lt z63; have x63 : w1.heap.size ≤ w6.heap.size + 1 := Nat.le_succ_of_le y63; have z64 : w2.heap.size < w6.heap.size := hz6 _ (by go_size); have y64 := Nat.le_of_lt z64; have x64 : w2.heap.size ≤ w6.heap.size + 1 := Nat.le_succ_of_le y64; have z65 : w3.heap.size < w6.heap.size := hz6 _ (by go_size); have y65 := Nat.le_of_lt z65; have x65 : w3.heap.size ≤ w6.heap.size + 1 := Nat.le_succ_of_le y65; have z66 : w4.heap.size < w6.heap.size := hz6 _ (by go_size); have y66 := Nat.le_of_lt z66; have x66 : w4.heap.size ≤ w6.heap.size + 1 := Nat.le_succ_of_le y66; have z67 : w5.heap.size < w6.heap.size := hz6 _ (by go_size); have y67 := Nat.le_of_lt z67; have x67 : w5.heap.size ≤ w6.heap.size + 1 := Nat.le_succ_of_le y67; clear hb hz6
  go_wp2_with fail
  refine (wMul n m hn hm _).mono ?_
  rintro e w7 ⟨mh, ml, rfl, hM, hb⟩
  obtain ⟨hB7, hs7, hc7, hf7, hz7⟩ := after (w0 := w) hb (by go_grown); have z70 : w.heap.size < w7.heap.size := hz7 _ (by go_size); clear hb hz7
  go_wp2_with fail
  refine (wMul m n hm hn _).mono ?_
  rintro e w8 ⟨nh, nl, rfl, hN, hb⟩
  obtain ⟨hB8, hs8, hc8, hf8, hz8⟩ := after (w0 := w) hb (by go_grown); have z80 : w.heap.size < w8.heap.size := hz8 _ (by go_size); clear hb hz8
  obtain ⟨rfl, rfl⟩ := hM.ext (by rw [Int.mul_comm]; exact hN)
  go_wp2
  go_ret
  exact ⟨rfl, by go_grown⟩
end Go.Proofs.Ytjgbkjkckhaheaa
