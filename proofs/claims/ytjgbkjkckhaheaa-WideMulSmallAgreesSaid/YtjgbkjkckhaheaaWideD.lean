/- Walks: wide.DivMod at 0, Half. No condition but the words' own range. -/
import Derived.Test.YtjgbkjkckhaheaaWideC
namespace Go.Proofs.Ytjgbkjkckhaheaa
open Go.RowKit

theorem wDivMod_0 (ah al : Int) (w : World) :
    Calls Try.prog 20 #[.agg #[.int .u64 ah, .int .u64 al], .int .u64 0] w (RetV (.tuple #[.agg #[.int .u64 0, .int .u64 0], .int .u64 0, .bool false]) w) := by
  go_enter Try.func20, Try.ntmps20
  go_wp2
  go_returns
  exact ⟨rfl, by go_grown⟩

/-- The nearest integer, a tie up. -/
def halfI (A d : Int) : Int := if dr A d ≥ d - dr A d then dq A d + 1 else dq A d

theorem wHalf (ah al A d : Int) (ha : IsU ah al A) (d0 : 1 ≤ d) (d1 : d < 18446744073709551616) (w : World) :
    Calls Try.prog 26 #[.agg #[.int .u64 ah, .int .u64 al], .int .u64 d] w (RetUB (halfI A d) true w) := by
  go_enter Try.func26, Try.ntmps26
  go_wp2_with fail
  refine (wDivMod ah al A d ha (by omega) d1 _).mono ?_
  rintro e w1 ⟨h, l, r, q, rfl, hq, hqr, r0, r1, hb⟩
  obtain ⟨hB1, hs1, hc1, hf1, hz1⟩ := after (w0 := w) hb (by go_grown); have z10 : w.heap.size < w1.heap.size := hz1 _ (by go_size); have z11 : w.heap.size + 1 < w1.heap.size := hz1 _ (by go_size); clear hb hz1
  have E := Lib.hid (dq_uniq hqr r0 r1)
  have HQ := Lib.hid hqr
  clear hqr
  by_cases ht : r ≥ d - r
  · have F : Hid (halfI A d = q + 1) := by show _ = _; rw [halfI, ← E.out.1, ← E.out.2, if_pos ht]
    have hfit : q + 1 < 340282366920938463463374607431768211456 := by
      have h1 := HQ.out
      have h2 := ha.lt
      have h3 : q * 2 ≤ q * d := Int.mul_le_mul_of_nonneg_left (by omega) hq.nn
      omega
    go_wp2_with fail
    go_region_held3 (fun w' => w'.cell? ⟨w1.heap.size, 0, none⟩ = some (.int .u64 h) ∧ w'.cell? ⟨w1.heap.size, 1, none⟩ = some (.int .u64 l)) ((simp (maxDischargeDepth := 8) [go_sem, *]; done))
      (first
        | (go_at_call 33; refine (wOf 1 _).mono ?_; rintro e w2 ⟨rfl, hb⟩; obtain ⟨hB2, hs2, hc2, hf2, hz2⟩ := after (w0 := w) hb (by go_grown); have z20 : w.heap.size < w2.heap.size := hz2 _ (by go_size); have z21 : w.heap.size + 1 < w2.heap.size := hz2 _ (by go_size); have z22 : w1.heap.size < w2.heap.size := hz2 _ (by go_size); have y22 := Nat.le_of_lt z22; have x22 : w1.heap.size ≤ w2.heap.size + 1 := Nat.le_succ_of_le y22; clear hb hz2)
        | (go_at_call 28; refine (wAdd_fit h l q 0 1 1 hq (by exact IsU.of_lo ⟨by decide, by decide⟩) hfit _).mono ?_; rintro e w3 ⟨sh, sl, rfl, hs, hb⟩; obtain ⟨hB3, hs3, hc3, hf3, hz3⟩ := after (w0 := w) hb (by go_grown); have z30 : w.heap.size < w3.heap.size := hz3 _ (by go_size); have z31 : w.heap.size + 1 < w3.heap.size := hz3 _ (by go_size); have z32 : w1.heap.size < w3.heap.size := hz3 _ (by go_size); have y32 := Nat.le_of_lt z32; have x32 : w1.heap.size ≤ w3.heap.size + 1 := Nat.le_succ_of_le y32; clear hb hz3))
    go_wp2
    refine bodyPost_ret (v := .tuple #[.agg #[.int .u64 sh, .int .u64 sl], .bool true]) (by simp (maxDischargeDepth := 8) [results, Try.results26, go_sem, *]) rfl ?_
    exact ⟨sh, sl, rfl, by rw [F.out]; exact hs, by go_grown⟩
  · have F : Hid (halfI A d = q) := by show _ = _; rw [halfI, ← E.out.1, ← E.out.2, if_neg ht]
    go_wp2
    refine bodyPost_ret (v := .tuple #[.agg #[.int .u64 h, .int .u64 l], .bool true]) (by simp (maxDischargeDepth := 8) [results, Try.results26, go_sem, *]) rfl ?_
    exact ⟨h, l, rfl, by rw [F.out]; exact hq, by go_grown⟩

theorem wHalf_0 (ah al : Int) (w : World) :
    Calls Try.prog 26 #[.agg #[.int .u64 ah, .int .u64 al], .int .u64 0] w (RetV (.tuple #[.agg #[.int .u64 0, .int .u64 0], .bool false]) w) := by
  go_enter Try.func26, Try.ntmps26
  go_wp2_with fail
  refine (wDivMod_0 ah al _).mono ?_
  rintro e w1 ⟨rfl, hb⟩
  obtain ⟨hB1, hs1, hc1, hf1, hz1⟩ := after (w0 := w) hb (by go_grown); have z10 : w.heap.size < w1.heap.size := hz1 _ (by go_size); have z11 : w.heap.size + 1 < w1.heap.size := hz1 _ (by go_size); clear hb hz1
  go_wp2
  refine bodyPost_ret (v := .tuple #[.agg #[.int .u64 0, .int .u64 0], .bool false]) (by simp (maxDischargeDepth := 8) [results, Try.results26, go_sem, *]) rfl ?_
  exact ⟨rfl, by go_grown⟩
end Go.Proofs.Ytjgbkjkckhaheaa
