/- Rounded quotients: what regrouping changes; the removal of the backdrop. No program. -/
import Derived.Test.YtjgmipklbpghfaaDoorMath08
namespace Go.Proofs.YtjgmipklbpghfaaDoor
open Go.RowKit

theorem hv_err {P d : Int} (hd : 1 ≤ d) : ∃ e : Int, P = d * hv P 0 d + e ∧ -d ≤ 2 * e ∧ 2 * e < d := by
  have h := hv_spec (P := P) (T := 0) hd
  have e1 : 2 * d * hv P 0 d = 2 * (d * hv P 0 d) := Int.mul_assoc _ _ _
  exact ⟨P - d * hv P 0 d, by omega, by omega, by omega⟩
/-- A sample over another: x with the weight w on y. -/
def ov (x w y m : Int) : Int := x + hv ((m - w) * y) 0 m
theorem ov_key {m pw q qw r X L Y V R e1 e2 e3 e4 e5 : Int} (h1 : (m - qw) * r = m * X + e1) (h2 : (m - pw) * (q + X) = m * L + e2) (h3 : (m - pw) * q = m * Y + e3) (h4 : (m - pw) * qw = m * V + e4) (h5 : (m - (pw + V)) * r = m * R + e5) :
    m * m * (L - Y - R) = -((m - pw) * e1) - e4 * r + m * (e3 - e2 + e5) := by
  have k1 := congrArg (fun z => m * z) h2
  have k2 := congrArg (fun z => (m - pw) * z) h1
  have k3 := congrArg (fun z => m * z) h3
  have k4 := congrArg (fun z => z * r) h4
  have k5 := congrArg (fun z => m * z) h5
  clear h1 h2 h3 h4 h5
  grind
theorem ov_assoc {p pw q qw r m : Int} (hm : 1 ≤ m) (w0 : 0 ≤ pw) (w1 : pw ≤ m) (r0 : 0 ≤ r) (r1 : r ≤ m) :
    ov p pw (ov q qw r m) m - ov (ov p pw q m) (ov pw pw qw m) r m ≤ 2 ∧ ov (ov p pw q m) (ov pw pw qw m) r m - ov p pw (ov q qw r m) m ≤ 2 := by
  unfold ov
  obtain ⟨e1, h1, a1, b1⟩ := hv_err (P := (m - qw) * r) hm
  obtain ⟨e2, h2, a2, b2⟩ := hv_err (P := (m - pw) * (q + hv ((m - qw) * r) 0 m)) hm
  obtain ⟨e3, h3, a3, b3⟩ := hv_err (P := (m - pw) * q) hm
  obtain ⟨e4, h4, a4, b4⟩ := hv_err (P := (m - pw) * qw) hm
  obtain ⟨e5, h5, a5, b5⟩ := hv_err (P := (m - (pw + hv ((m - pw) * qw) 0 m)) * r) hm
  generalize hv ((m - qw) * r) 0 m = X at *
  generalize hv ((m - pw) * (q + X)) 0 m = L at *
  generalize hv ((m - pw) * q) 0 m = Y at *
  generalize hv ((m - pw) * qw) 0 m = V at *
  generalize hv ((m - (pw + V)) * r) 0 m = R at *
  have key : m * m * (L - Y - R) = -((m - pw) * e1) - e4 * r + m * (e3 - e2 + e5) := ov_key h1 h2 h3 h4 h5
  have c1 : (m - pw) * (2 * e1) ≤ (m - pw) * m := Int.mul_le_mul_of_nonneg_left (by omega) (by omega)
  have c2 : (m - pw) * -m ≤ (m - pw) * (2 * e1) := Int.mul_le_mul_of_nonneg_left (by omega) (by omega)
  have c3 : 2 * e4 * r ≤ m * r := Int.mul_le_mul_of_nonneg_right (by omega) r0
  have c4 : -m * r ≤ 2 * e4 * r := Int.mul_le_mul_of_nonneg_right (by omega) r0
  have c5 : m * (2 * (e3 - e2 + e5)) ≤ m * (3 * m) := Int.mul_le_mul_of_nonneg_left (by omega) (by omega)
  have c6 : m * -(3 * m) ≤ m * (2 * (e3 - e2 + e5)) := Int.mul_le_mul_of_nonneg_left (by omega) (by omega)
  have c7 : m * r ≤ m * m := Int.mul_le_mul_of_nonneg_left r1 (by omega)
  have c8 : m * pw ≥ 0 := Int.mul_nonneg (by omega) w0
  have c9 : 1 * 1 ≤ m * m := Int.mul_le_mul hm hm (by decide) (by omega)
  have d1 : (m - pw) * (2 * e1) = 2 * ((m - pw) * e1) := Int.mul_left_comm _ _ _
  have d2 : (m - pw) * m = m * m - m * pw := by grind
  have d3 : (m - pw) * -m = -(m * m - m * pw) := by grind
  have d4 : 2 * e4 * r = 2 * (e4 * r) := Int.mul_assoc _ _ _
  have d5 : -m * r = -(m * r) := Int.neg_mul _ _
  have d6 : m * (2 * (e3 - e2 + e5)) = 2 * (m * (e3 - e2 + e5)) := Int.mul_left_comm _ _ _
  have d7 : m * (3 * m) = 3 * (m * m) := Int.mul_left_comm _ _ _
  have d8 : m * -(3 * m) = -(3 * (m * m)) := by grind
  generalize hD : L - Y - R = D at *
  have hD2 : D ≤ 2 := by
    rcases Int.lt_or_le 2 D with h | h
    · have : m * m * 3 ≤ m * m * D := Int.mul_le_mul_of_nonneg_left (by omega) (by omega)
      omega
    · exact h
  have hD3 : -2 ≤ D := by
    rcases Int.lt_or_le D (-2) with h | h
    · have : m * m * D ≤ m * m * -3 := Int.mul_le_mul_of_nonneg_left (by omega) (by omega)
      omega
    · exact h
  omega
theorem hv_z {m : Int} (hm : 1 ≤ m) : hv 0 0 m = 0 := by
  have := hv_exact (n := 0) hm
  rwa [Int.zero_mul] at this
theorem hv_m {m x : Int} (hm : 1 ≤ m) : hv (m * x) 0 m = x := by rw [Int.mul_comm, hv_exact hm]
/-- An opaque or a transparent sample on the left: regrouping changes nothing. -/
theorem ov_crisp {p pw q qw r m : Int} (hm : 1 ≤ m) (h : (pw = 0 ∧ p = 0) ∨ pw = m) : ov p pw (ov q qw r m) m = ov (ov p pw q m) (ov pw pw qw m) r m := by
  unfold ov
  rcases h with ⟨rfl, rfl⟩ | rfl
  · rw [Int.sub_zero, hv_m hm, hv_m hm, hv_m hm, Int.zero_add, Int.zero_add, Int.zero_add]
  · rw [Int.sub_self, Int.zero_mul, Int.zero_mul, Int.zero_mul, hv_z hm]
    have e : pw - (pw + 0) = 0 := by omega
    rw [e, Int.zero_mul, hv_z hm]
    omega
theorem hv_mono0 {P Q d : Int} (hd : 1 ≤ d) (h : P ≤ Q) : hv P 0 d ≤ hv Q 0 d := by
  refine hv_mono hd hd ?_
  have : (2 * P + 0) * d ≤ 2 * Q * d := Int.mul_le_mul_of_nonneg_right (by omega) (by omega)
  have e : 2 * Q * d = 2 * (Q * d) := Int.mul_assoc _ _ _
  omega
/-- A group of one normal element: the backdrop's part is taken away again. -/
theorem remove_one {m a s d : Int} (hm : m = 255 ∨ m = 65535) (s0 : 0 ≤ s) :
    (m * (s + hv ((m - a) * d) 0 m) ≤ (m - a) * d → s = 0) ∧ ((m - a) * d < m * (s + hv ((m - a) * d) 0 m) → hv (m * (s + hv ((m - a) * d) 0 m) - (m - a) * d) 0 m = s) := by
  obtain ⟨e, h, a1, b1⟩ := hv_err (P := (m - a) * d) (d := m) (by omega)
  generalize hv ((m - a) * d) 0 m = X at *
  have e1 : m * (s + X) = m * s + m * X := Int.mul_add _ _ _
  rw [e1]
  constructor
  · intro k
    have : m * s ≤ e := by omega
    rcases Int.lt_or_le 0 s with h0 | h0
    · have : m * 1 ≤ m * s := Int.mul_le_mul_of_nonneg_left h0 (by omega)
      omega
    · omega
  · intro k
    have e2 : 2 * m * s = 2 * (m * s) := Int.mul_assoc _ _ _
    exact hv_uq (by omega) (by omega)
end Go.Proofs.YtjgmipklbpghfaaDoor
