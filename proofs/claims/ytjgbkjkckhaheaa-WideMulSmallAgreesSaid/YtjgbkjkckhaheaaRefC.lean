/- Walk: ref01.DivMod (bit by bit), HalfWide. Every number. -/
import Derived.Test.YtjgbkjkckhaheaaRefB
import Derived.Test.YtjgbkjkckhaheaaWideC
namespace Go.Proofs.Ytjgbkjkckhaheaa
open Go.RowKit

theorem rMulSmall_fit (ah al A k : Int) (ha : IsU ah al A) (hk : IsW k) (hfit : A * k < 340282366920938463463374607431768211456) (w : World) :
    Calls Try.prog 21 #[.agg #[.int .u64 ah, .int .u64 al], .int .u64 k] w (RetUB (A * k) true w) := by
  refine (rMulSmall ah al A k ha hk w).mono ?_
  rintro e w' (⟨_, h⟩ | ⟨h, _⟩)
  · exact h
  · omega
theorem rMulSmall_over (ah al A k : Int) (ha : IsU ah al A) (hk : IsW k) (hfit : 340282366920938463463374607431768211456 ≤ A * k) (w : World) :
    Calls Try.prog 21 #[.agg #[.int .u64 ah, .int .u64 al], .int .u64 k] w (RetUB 0 false w) := by
  refine (rMulSmall ah al A k ha hk w).mono ?_
  rintro e w' (⟨h, _⟩ | ⟨_, h⟩)
  · omega
  · exact h

set_option maxHeartbeats 2000000 in
theorem rDivMod (ah al A d : Int) (ha : IsU ah al A) (d0 : 1 ≤ d) (d1 : d < 18446744073709551616) (w : World) :
    Calls Try.prog 48 #[.agg #[.int .u64 ah, .int .u64 al], .int .u64 d] w (RetDM A d w) := by
  have hd : (d == 0) = false := by rw [beq_eq_false_iff_ne]; omega
  have HI := Lib.hid (dm_start ha.nn ha.lt d0)
  go_enter Try.func48, Try.ntmps48
  go_wp2
  go_loopw [8, 9] (fun rv iv wr => ∃ (r qh ql X : Int) (j : Nat), rv = .int .u64 r ∧ iv = .int .i64 ((j : Int) - 1) ∧ j ≤ 128 ∧ IsU qh ql X ∧ DMInv A d X r j ∧ Below w.heap.size w wr ∧ w.heap.size < wr.heap.size ∧ w.heap.size + 1 < wr.heap.size ∧ w.heap.size + 1 + 1 < wr.heap.size ∧
    wr.cell? ⟨w.heap.size, 0, none⟩ = some (.int .u64 ah) ∧ wr.cell? ⟨w.heap.size, 1, none⟩ = some (.int .u64 al) ∧ wr.cell? ⟨w.heap.size + 1, 0, none⟩ = some (.int .u64 0) ∧ wr.cell? ⟨w.heap.size + 1, 1, none⟩ = some (.int .u64 0) ∧ wr.cell? ⟨w.heap.size + 1 + 1, 0, none⟩ = some (.int .u64 qh) ∧ wr.cell? ⟨w.heap.size + 1 + 1, 1, none⟩ = some (.int .u64 ql) ∧
    (∀ x, wr.frozen? ⟨w.heap.size + 1, x, none⟩ = false) ∧ (∀ x, wr.frozen? ⟨w.heap.size + 1 + 1, x, none⟩ = false)) (fun _ iv _ => (intOf iv + 1).toNat)
  case atStart => exact ⟨0, 0, 0, 0, 128, rfl, rfl, by omega, IsU.zero, HI.out, by go_grown, by go_size, by go_size, by go_size, by go_cell, by go_cell, by go_cell, by go_cell, by go_cell, by go_cell, by intro x; simp [go_sem], by intro x; simp [go_sem]⟩
  case round =>
    clear HI
    obtain ⟨r, qh, ql, X, j, rfl, rfl, hj, hq, hI, hB, s0, s1, s2, c0, c1, c2, c3, c4, c5, f1, f2⟩ := hrel
    have r0 := hI.2.2.2.1
    have r1 := hI.2.2.2.2
    by_cases hz : j = 0
    · subst hz
      have HE := Lib.hid (dm_end hI)
      clear hI
      go_wp2
      refine bodyPost_ret (v := .tuple #[.agg #[.int .u64 qh, .int .u64 ql], .int .u64 r, .bool true]) (by simp (maxDischargeDepth := 8) [results, Try.results48, go_sem, *]) rfl ?_
      exact ⟨qh, ql, r, X, rfl, hq, HE.out.1, r0, r1, by go_grown⟩
    · have a0 := ha.1
      have a1 := ha.2.1
      have a2 := ha.2.2.1
      have a3 := ha.2.2.2.1
      by_cases hi : 65 ≤ j
      · obtain ⟨n, rfl⟩ : ∃ n : Nat, j = n + 64 + 1 := ⟨j - 65, by omega⟩
        have hn : n ≤ 63 := by omega
        have HI := Lib.hid hI
        have HS := Lib.hid (dm_step hI)
        have HB := Lib.hid (bit_hi n ha.eq ha.2.2.1 ha.2.2.2.1)
        clear hI hz
        have hp : (0 : Int) ≤ ah / 2 ^ n := Int.ediv_nonneg (by omega) (Int.le_of_lt (Int.pow_pos (by decide)))
        have hq1 : ah / 2 ^ n ≤ ah := Int.ediv_le_self _ (by omega)
        obtain ⟨bt, hbt, hb01⟩ : ∃ bt : Int, bits .and .u64 (ah / 2 ^ n) 1 = bt ∧ Hid (bt = A / 2 ^ (n + 64) % 2 ∧ (bt = 0 ∨ bt = 1)) := ⟨_, and_one _ hp (by omega), by rw [HB.out], by omega⟩
        obtain ⟨q1, hq2, HU⟩ := or_hi hq hn HI.out.2.1
        have HU := Lib.hid HU
        rcases dm_cases r0 r1 d1 hb01.out.2 with ⟨ht, y, z, hor, hw, HZ⟩ | ⟨ht, hr, y, hor, y0, y1, hy, HZ⟩ | ⟨ht, hr, y, hor, y0, y1, hy, HZ⟩
        · go_wp2
          go_roundw
          case rel => exact ⟨z, q1, ql, X + 2 ^ (n + 64), n + 64, rfl, congrArg (Value.int .i64) (by omega), by omega, HU.out, by rw [HZ.out.1, hb01.out.1]; exact HS.out.2 (by rw [← hb01.out.1]; exact HZ.out.2), by go_grown, by go_size, by go_size, by go_size, by (simp (maxDischargeDepth := 8) [go_sem, *]; done), by (simp (maxDischargeDepth := 8) [go_sem, *]; done), by (simp (maxDischargeDepth := 8) [go_sem, *]; done), by (simp (maxDischargeDepth := 8) [go_sem, *]; done), by (simp (maxDischargeDepth := 8) [go_sem, *]; done), by (simp (maxDischargeDepth := 8) [go_sem, *]; done), by intro x; (simp (maxDischargeDepth := 8) [go_sem, *]; done), by intro x; (simp (maxDischargeDepth := 8) [go_sem, *]; done)⟩
          case measure => simp [intOf] <;> omega
        · go_wp2
          go_roundw
          case rel => exact ⟨y - d, q1, ql, X + 2 ^ (n + 64), n + 64, rfl, congrArg (Value.int .i64) (by omega), by omega, HU.out, by rw [HZ.out, hb01.out.1]; exact HS.out.2 (by rw [← hb01.out.1, ← HZ.out]; exact hy), by go_grown, by go_size, by go_size, by go_size, by (simp (maxDischargeDepth := 8) [go_sem, *]; done), by (simp (maxDischargeDepth := 8) [go_sem, *]; done), by (simp (maxDischargeDepth := 8) [go_sem, *]; done), by (simp (maxDischargeDepth := 8) [go_sem, *]; done), by (simp (maxDischargeDepth := 8) [go_sem, *]; done), by (simp (maxDischargeDepth := 8) [go_sem, *]; done), by intro x; (simp (maxDischargeDepth := 8) [go_sem, *]; done), by intro x; (simp (maxDischargeDepth := 8) [go_sem, *]; done)⟩
          case measure => simp [intOf] <;> omega
        · go_wp2
          go_roundw
          case rel => exact ⟨y, qh, ql, X, n + 64, rfl, congrArg (Value.int .i64) (by omega), by omega, hq, by rw [HZ.out, hb01.out.1]; exact HS.out.1 (by rw [← hb01.out.1, ← HZ.out]; exact hy), by go_grown, by go_size, by go_size, by go_size, by (simp (maxDischargeDepth := 8) [go_sem, *]; done), by (simp (maxDischargeDepth := 8) [go_sem, *]; done), by (simp (maxDischargeDepth := 8) [go_sem, *]; done), by (simp (maxDischargeDepth := 8) [go_sem, *]; done), by (simp (maxDischargeDepth := 8) [go_sem, *]; done), by (simp (maxDischargeDepth := 8) [go_sem, *]; done), by intro x; (simp (maxDischargeDepth := 8) [go_sem, *]; done), by intro x; (simp (maxDischargeDepth := 8) [go_sem, *]; done)⟩
          case measure => simp [intOf] <;> omega
      · obtain ⟨n, rfl⟩ : ∃ n : Nat, j = n + 1 := ⟨j - 1, by omega⟩
        have hn : n < 64 := by omega
        have HI := Lib.hid hI
        have HS := Lib.hid (dm_step hI)
        have HB := Lib.hid (bit_lo n hn ha.eq)
        clear hI hz
        have hp : (0 : Int) ≤ al / 2 ^ n := Int.ediv_nonneg (by omega) (Int.le_of_lt (Int.pow_pos (by decide)))
        have hq1 : al / 2 ^ n ≤ al := Int.ediv_le_self _ (by omega)
        obtain ⟨bt, hbt, hb01⟩ : ∃ bt : Int, bits .and .u64 (al / 2 ^ n) 1 = bt ∧ Hid (bt = A / 2 ^ n % 2 ∧ (bt = 0 ∨ bt = 1)) := ⟨_, and_one _ hp (by omega), by rw [HB.out], by omega⟩
        obtain ⟨q1, hq2, HU⟩ := or_lo hq (by omega) HI.out.2.1
        have HU := Lib.hid HU
        rcases dm_cases r0 r1 d1 hb01.out.2 with ⟨ht, y, z, hor, hw, HZ⟩ | ⟨ht, hr, y, hor, y0, y1, hy, HZ⟩ | ⟨ht, hr, y, hor, y0, y1, hy, HZ⟩
        · go_wp2
          go_roundw
          case rel => exact ⟨z, qh, q1, X + 2 ^ n, n, rfl, congrArg (Value.int .i64) (by omega), by omega, HU.out, by rw [HZ.out.1, hb01.out.1]; exact HS.out.2 (by rw [← hb01.out.1]; exact HZ.out.2), by go_grown, by go_size, by go_size, by go_size, by (simp (maxDischargeDepth := 8) [go_sem, *]; done), by (simp (maxDischargeDepth := 8) [go_sem, *]; done), by (simp (maxDischargeDepth := 8) [go_sem, *]; done), by (simp (maxDischargeDepth := 8) [go_sem, *]; done), by (simp (maxDischargeDepth := 8) [go_sem, *]; done), by (simp (maxDischargeDepth := 8) [go_sem, *]; done), by intro x; (simp (maxDischargeDepth := 8) [go_sem, *]; done), by intro x; (simp (maxDischargeDepth := 8) [go_sem, *]; done)⟩
          case measure => simp [intOf] <;> omega
        · go_wp2
          go_roundw
          case rel => exact ⟨y - d, qh, q1, X + 2 ^ n, n, rfl, congrArg (Value.int .i64) (by omega), by omega, HU.out, by rw [HZ.out, hb01.out.1]; exact HS.out.2 (by rw [← hb01.out.1, ← HZ.out]; exact hy), by go_grown, by go_size, by go_size, by go_size, by (simp (maxDischargeDepth := 8) [go_sem, *]; done), by (simp (maxDischargeDepth := 8) [go_sem, *]; done), by (simp (maxDischargeDepth := 8) [go_sem, *]; done), by (simp (maxDischargeDepth := 8) [go_sem, *]; done), by (simp (maxDischargeDepth := 8) [go_sem, *]; done), by (simp (maxDischargeDepth := 8) [go_sem, *]; done), by intro x; (simp (maxDischargeDepth := 8) [go_sem, *]; done), by intro x; (simp (maxDischargeDepth := 8) [go_sem, *]; done)⟩
          case measure => simp [intOf] <;> omega
        · go_wp2
          go_roundw
          case rel => exact ⟨y, qh, ql, X, n, rfl, congrArg (Value.int .i64) (by omega), by omega, hq, by rw [HZ.out, hb01.out.1]; exact HS.out.1 (by rw [← hb01.out.1, ← HZ.out]; exact hy), by go_grown, by go_size, by go_size, by go_size, by (simp (maxDischargeDepth := 8) [go_sem, *]; done), by (simp (maxDischargeDepth := 8) [go_sem, *]; done), by (simp (maxDischargeDepth := 8) [go_sem, *]; done), by (simp (maxDischargeDepth := 8) [go_sem, *]; done), by (simp (maxDischargeDepth := 8) [go_sem, *]; done), by (simp (maxDischargeDepth := 8) [go_sem, *]; done), by intro x; (simp (maxDischargeDepth := 8) [go_sem, *]; done), by intro x; (simp (maxDischargeDepth := 8) [go_sem, *]; done)⟩
          case measure => simp [intOf] <;> omega

theorem rDivMod_0 (ah al : Int) (w : World) :
    Calls Try.prog 48 #[.agg #[.int .u64 ah, .int .u64 al], .int .u64 0] w (RetV (.tuple #[.agg #[.int .u64 0, .int .u64 0], .int .u64 0, .bool false]) w) := by
  go_enter Try.func48, Try.ntmps48
  go_wp2
  go_returns
  exact ⟨rfl, by go_grown⟩
end Go.Proofs.Ytjgbkjkckhaheaa
