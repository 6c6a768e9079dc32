/- Walk: compositorlaw02's awake returns true. -/
import Derived.Test.YtjgbkjkckhaheaaLaw02b
namespace Go.Proofs.Ytjgbkjkckhaheaa
open Go.RowKit

theorem sq_of_2_64 {x : Int} (h : IsW x) (h1 : x * x ≤ 18446744073709551616) (h2 : 18446744073709551616 < (x + 1) * (x + 1)) : x = 4294967296 := by
  obtain ⟨x0, -⟩ := h
  rcases Int.lt_trichotomy x 4294967296 with h | h | h
  · have : (x + 1) * (x + 1) ≤ 4294967296 * 4294967296 := Int.mul_le_mul (by omega) (by omega) (by omega) (by decide)
    omega
  · exact h
  · have : 4294967297 * 4294967297 ≤ x * x := Int.mul_le_mul (by omega) (by omega) (by decide) x0
    omega

set_option maxHeartbeats 1000000 in
theorem lAwake02 (w : World) : Calls Try.prog 17 #[] w (RetV (.bool true) w) := by
  go_enter Try.func17, Try.ntmps17
  go_wp2_with fail
  refine (wDivMod 1 0 18446744073709551616 3 ⟨by decide, by decide, by decide, by decide, by decide⟩ (by decide) (by decide) _).mono ?_
  rintro e w1 ⟨h, l, r, q, rfl, hq, hqr, r0, r1, hb⟩
  obtain ⟨hB1, hs1, hc1, hf1, hz1⟩ := after (w0 := w) hb (by go_grown); clear hb hz1
  have hl : h = 0 ∧ l = 6148914691236517205 ∧ r = 1 := by
    obtain ⟨_, _, _, _, _⟩ := hq
    omega
  obtain ⟨rfl, rfl, rfl⟩ := hl
  clear hq hqr r0 r1
  go_wp2_with fail
  refine (wMul 1099511627776 1099511627776 ⟨by decide, by decide⟩ ⟨by decide, by decide⟩ _).mono ?_
  rintro e w2 ⟨h, l, rfl, hm, hb⟩
  obtain ⟨hB2, hs2, hc2, hf2, hz2⟩ := after (w0 := w) hb (by go_grown); have z20 : w1.heap.size < w2.heap.size := hz2 _ (by go_size); have y20 := Nat.le_of_lt z20; have x20 : w1.heap.size ≤ w2.heap.size + 1 := Nat.le_succ_of_le y20; clear hb hz2
  have hl : h = 65536 ∧ l = 0 := by
    obtain ⟨_, _, _, _, _⟩ := hm
    omega
  obtain ⟨rfl, rfl⟩ := hl
  clear hm
  go_wp2_with fail
  refine (wSqrt 1 0 18446744073709551616 ⟨by decide, by decide, by decide, by decide, by decide⟩ _).mono ?_
  rintro e w3 ⟨x, rfl, hx, hx1, hx2, hb⟩
  obtain ⟨hB3, hs3, hc3, hf3, hz3⟩ := after (w0 := w) hb (by go_grown); have z30 : w1.heap.size < w3.heap.size := hz3 _ (by go_size); have y30 := Nat.le_of_lt z30; have x30 : w1.heap.size ≤ w3.heap.size + 1 := Nat.le_succ_of_le y30; clear hb hz3
  obtain rfl := sq_of_2_64 hx hx1 hx2
  clear hx hx1 hx2
  go_wp2
  go_ret
  exact ⟨rfl, by go_grown⟩
end Go.Proofs.Ytjgbkjkckhaheaa
