/- Walks: compositorlaw02's near and awake. -/
import Derived.Test.YtjgbkjkckhaheaaLaw02
namespace Go.Proofs.Ytjgbkjkckhaheaa
open Go.RowKit

theorem tmod_bd (n : Int) {k : Int} (k0 : 1 ≤ k) : -k < n.tmod k ∧ n.tmod k < k := by
  refine ⟨?_, Int.tmod_lt_of_pos n (by omega)⟩
  rcases Int.le_total 0 n with h | h
  · have := Int.tmod_nonneg k h; omega
  · have h1 : (-n).tmod k < k := Int.tmod_lt_of_pos (-n) (by omega)
    rw [Int.neg_tmod] at h1; omega
/-- Some number of 128 bits is handed back. -/
def RetSU (w : World) (e : Ending) (w' : World) : Prop := ∃ h l X : Int, e = .returned (.agg #[.int .u64 h, .int .u64 l]) ∧ IsU h l X ∧ Below w.heap.size w w'

theorem lNear (ah al A k : Int) (ha : IsU ah al A) (n0 : -9223372036854775808 ≤ k) (n1 : k ≤ 9223372036854775807) (w : World) :
    Calls Try.prog 15 #[.agg #[.int .u64 ah, .int .u64 al], .int .i64 k] w (RetSU w) := by
  obtain ⟨p0, p1⟩ := gm_lt (k.tdiv 4) (k := 3) (by decide)
  obtain ⟨q0, q1⟩ := gm_lt k (k := 4) (by decide)
  obtain ⟨m0, m1⟩ := tmod_bd k (k := 4) (by decide)
  have t0 : -9223372036854775808 ≤ k.tdiv 4 := by have := Int.tmod_add_mul_tdiv k 4; omega
  have t1 : k.tdiv 4 ≤ 9223372036854775807 := by have := Int.tmod_add_mul_tdiv k 4; omega
  have u := ha
  obtain ⟨a0, a1, a2, a3, -⟩ := ha
  clear m0 m1
  have hq : gm k 4 = 0 ∨ gm k 4 = 1 ∨ gm k 4 = 2 ∨ gm k 4 = 3 := by omega
  clear q0 q1
  go_enter Try.func15, Try.ntmps15
  go_wp2_with fail
  refine (gMod _ 3 (by decide) (by decide) _).mono ?_
  rintro e w1 ⟨rfl, rfl⟩
  go_wp2_with fail
  refine (gMod _ 4 (by decide) (by decide) _).mono ?_
  rintro e w1 ⟨rfl, rfl⟩
  rcases hq with h | h | h | h
  · have e0 : (gm k 4 == 0) = true := by rw [h]; rfl
    clear h
    go_wp2
    go_returns
    exact ⟨_, _, _, rfl, IsU.of_lo u.lo, by go_grown⟩
  · have e0 : (gm k 4 == 0) = false := by rw [h]; rfl
    have e1 : (gm k 4 == 1) = true := by rw [h]; rfl
    clear h
    go_wp2
    go_returns
    exact ⟨_, _, _, rfl, ⟨a0, a1, by omega, by omega, rfl⟩, by go_grown⟩
  · have e0 : (gm k 4 == 0) = false := by rw [h]; rfl
    have e1 : (gm k 4 == 1) = false := by rw [h]; rfl
    have e2 : (gm k 4 == 2) = true := by rw [h]; rfl
    clear h
    go_wp2
    go_returns
    exact ⟨_, _, _, rfl, ⟨a0, a1, by omega, by omega, rfl⟩, by go_grown⟩
  · have e0 : (gm k 4 == 0) = false := by rw [h]; rfl
    have e1 : (gm k 4 == 1) = false := by rw [h]; rfl
    have e2 : (gm k 4 == 2) = false := by rw [h]; rfl
    clear h
    go_wp2
    go_returns
    exact ⟨_, _, _, rfl, u, by go_grown⟩
end Go.Proofs.Ytjgbkjkckhaheaa
