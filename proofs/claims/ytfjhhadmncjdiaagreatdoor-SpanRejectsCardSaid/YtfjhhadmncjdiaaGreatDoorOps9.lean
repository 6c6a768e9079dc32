/- What the operators do; errors of roundings. No condition. -/
import Derived.Test.YtfjhhadmncjdiaaGreatDoorMath08
import Derived.Test.YtfjhhadmncjdiaaGreatDoorLaw08

/- Rounded quotients: what regrouping changes; the removal of the backdrop. No program. -/
namespace Go.Proofs.YtfjhhadmncjdiaaGreatDoor
open Go.RowKit

theorem hv_err {P d : Int} (hd : 1 ≤ d) : ∃ e : Int, P = d * hv P 0 d + e ∧ -d ≤ 2 * e ∧ 2 * e < d := by
  have h := hv_spec (P := P) (T := 0) hd
  have e1 : 2 * d * hv P 0 d = 2 * (d * hv P 0 d) := Int.mul_assoc _ _ _
  exact ⟨P - d * hv P 0 d, by omega, by omega, by omega⟩
/-- A sample over another: x with the weight w on y. -/
def ov (x w y m : Int) : Int := x + hv ((m - w) * y) 0 m
theorem ov_key {m pw q qw r X L Y V R e1 e2 e3 e4 e5 : Int} (h1 : (m - qw) * r = m * X + e1) (h2 : (m - pw) * (q + X) = m * L + e2) (h3 : (m - pw) * q = m * Y + e3) (h4 : (m - pw) * qw = m * V + e4) (h5 : (m - (pw + V)) * r = m * R + e5) :
    m * m * (L - Y - R) = -((m - pw) * e1) - e4 * r + m * (e3 - e2 + e5) := by
  have k1 := congrArg (fun z => m * z) h2
  have k2 := congrArg (fun z => (m - pw) * z) h1
  have k3 := congrArg (fun z => m * z) h3
  have k4 := congrArg (fun z => z * r) h4
  have k5 := congrArg (fun z => m * z) h5
  clear h1 h2 h3 h4 h5
  grind
theorem ov_assoc {p pw q qw r m : Int} (hm : 1 ≤ m) (w0 : 0 ≤ pw) (w1 : pw ≤ m) (r0 : 0 ≤ r) (r1 : r ≤ m) :
    ov p pw (ov q qw r m) m - ov (ov p pw q m) (ov pw pw qw m) r m ≤ 2 ∧ ov (ov p pw q m) (ov pw pw qw m) r m - ov p pw (ov q qw r m) m ≤ 2 := by
  unfold ov
  obtain ⟨e1, h1, a1, b1⟩ := hv_err (P := (m - qw) * r) hm
  obtain ⟨e2, h2, a2, b2⟩ := hv_err (P := (m - pw) * (q + hv ((m - qw) * r) 0 m)) hm
  obtain ⟨e3, h3, a3, b3⟩ := hv_err (P := (m - pw) * q) hm
  obtain ⟨e4, h4, a4, b4⟩ := hv_err (P := (m - pw) * qw) hm
  obtain ⟨e5, h5, a5, b5⟩ := hv_err (P := (m - (pw + hv ((m - pw) * qw) 0 m)) * r) hm
  generalize hv ((m - qw) * r) 0 m = X at *
  generalize hv ((m - pw) * (q + X)) 0 m = L at *
  generalize hv ((m - pw) * q) 0 m = Y at *
  generalize hv ((m - pw) * qw) 0 m = V at *
  generalize hv ((m - (pw + V)) * r) 0 m = R at *
  have key : m * m * (L - Y - R) = -((m - pw) * e1) - e4 * r + m * (e3 - e2 + e5) := ov_key h1 h2 h3 h4 h5
  have c1 : (m - pw) * (2 * e1) ≤ (m - pw) * m := Int.mul_le_mul_of_nonneg_left (by omega) (by omega)
  have c2 : (m - pw) * -m ≤ (m - pw) * (2 * e1) := Int.mul_le_mul_of_nonneg_left (by omega) (by omega)
  have c3 : 2 * e4 * r ≤ m * r := Int.mul_le_mul_of_nonneg_right (by omega) r0
  have c4 : -m * r ≤ 2 * e4 * r := Int.mul_le_mul_of_nonneg_right (by omega) r0
  have c5 : m * (2 * (e3 - e2 + e5)) ≤ m * (3 * m) := Int.mul_le_mul_of_nonneg_left (by omega) (by omega)
  have c6 : m * -(3 * m) ≤ m * (2 * (e3 - e2 + e5)) := Int.mul_le_mul_of_nonneg_left (by omega) (by omega)
  have c7 : m * r ≤ m * m := Int.mul_le_mul_of_nonneg_left r1 (by omega)
  have c8 : m * pw ≥ 0 := Int.mul_nonneg (by omega) w0
  have c9 : 1 * 1 ≤ m * m := Int.mul_le_mul hm hm (by decide) (by omega)
  have d1 : (m - pw) * (2 * e1) = 2 * ((m - pw) * e1) := Int.mul_left_comm _ _ _
  have d2 : (m - pw) * m = m * m - m * pw := by grind
  have d3 : (m - pw) * -m = -(m * m - m * pw) := by grind
  have d4 : 2 * e4 * r = 2 * (e4 * r) := Int.mul_assoc _ _ _
  have d5 : -m * r = -(m * r) := Int.neg_mul _ _
  have d6 : m * (2 * (e3 - e2 + e5)) = 2 * (m * (e3 - e2 + e5)) := Int.mul_left_comm _ _ _
  have d7 : m * (3 * m) = 3 * (m * m) := Int.mul_left_comm _ _ _
  have d8 : m * -(3 * m) = -(3 * (m * m)) := by grind
  generalize hD : L - Y - R = D at *
  have hD2 : D ≤ 2 := by
    rcases Int.lt_or_le 2 D with h | h
    · have : m * m * 3 ≤ m * m * D := Int.mul_le_mul_of_nonneg_left (by omega) (by omega)
      omega
    · exact h
  have hD3 : -2 ≤ D := by
    rcases Int.lt_or_le D (-2) with h | h
    · have : m * m * D ≤ m * m * -3 := Int.mul_le_mul_of_nonneg_left (by omega) (by omega)
      omega
    · exact h
  omega
theorem hv_z {m : Int} (hm : 1 ≤ m) : hv 0 0 m = 0 := by
  have := hv_exact (n := 0) hm
  rwa [Int.zero_mul] at this
theorem hv_m {m x : Int} (hm : 1 ≤ m) : hv (m * x) 0 m = x := by rw [Int.mul_comm, hv_exact hm]
/-- An opaque or a transparent sample on the left: regrouping changes nothing. -/
theorem ov_crisp {p pw q qw r m : Int} (hm : 1 ≤ m) (h : (pw = 0 ∧ p = 0) ∨ pw = m) : ov p pw (ov q qw r m) m = ov (ov p pw q m) (ov pw pw qw m) r m := by
  unfold ov
  rcases h with ⟨rfl, rfl⟩ | rfl
  · rw [Int.sub_zero, hv_m hm, hv_m hm, hv_m hm, Int.zero_add, Int.zero_add, Int.zero_add]
  · rw [Int.sub_self, Int.zero_mul, Int.zero_mul, Int.zero_mul, hv_z hm]
    have e : pw - (pw + 0) = 0 := by omega
    rw [e, Int.zero_mul, hv_z hm]
    omega
theorem hv_mono0 {P Q d : Int} (hd : 1 ≤ d) (h : P ≤ Q) : hv P 0 d ≤ hv Q 0 d := by
  refine hv_mono hd hd ?_
  have : (2 * P + 0) * d ≤ 2 * Q * d := Int.mul_le_mul_of_nonneg_right (by omega) (by omega)
  have e : 2 * Q * d = 2 * (Q * d) := Int.mul_assoc _ _ _
  omega
/-- A group of one normal element: the backdrop's part is taken away again. -/
theorem remove_one {m a s d : Int} (hm : m = 255 ∨ m = 65535) (s0 : 0 ≤ s) :
    (m * (s + hv ((m - a) * d) 0 m) ≤ (m - a) * d → s = 0) ∧ ((m - a) * d < m * (s + hv ((m - a) * d) 0 m) → hv (m * (s + hv ((m - a) * d) 0 m) - (m - a) * d) 0 m = s) := by
  obtain ⟨e, h, a1, b1⟩ := hv_err (P := (m - a) * d) (d := m) (by omega)
  generalize hv ((m - a) * d) 0 m = X at *
  have e1 : m * (s + X) = m * s + m * X := Int.mul_add _ _ _
  rw [e1]
  constructor
  · intro k
    have : m * s ≤ e := by omega
    rcases Int.lt_or_le 0 s with h0 | h0
    · have : m * 1 ≤ m * s := Int.mul_le_mul_of_nonneg_left h0 (by omega)
      omega
    · omega
  · intro k
    have e2 : 2 * m * s = 2 * (m * s) := Int.mul_assoc _ _ _
    exact hv_uq (by omega) (by omega)
end Go.Proofs.YtfjhhadmncjdiaaGreatDoor

/- What the operators do to alpha and shape, and at transparent pixels. -/
namespace Go.Proofs.YtfjhhadmncjdiaaGreatDoor
open Go.RowKit

theorem hv_leN {P n m : Int} (hm : 1 ≤ m) (h : P ≤ n * m) : hv P 0 m ≤ n := hv_le hm (by
  have : 2 * n * m = 2 * (n * m) := Int.mul_assoc _ _ _
  omega)
theorem union_mono {a b f g m : Int} (haf : a ≤ f) (hf : f ≤ m) (hbg : b ≤ g) (hg : g ≤ m) : m * a + (m - a) * b ≤ m * f + (m - f) * g := by
  have h : (m - f) * (m - g) ≤ (m - a) * (m - b) := Int.mul_le_mul (by omega) (by omega) (by omega) (by omega)
  have e1 : (m - f) * (m - g) = m * m - (m * f + (m - f) * g) := by grind
  have e2 : (m - a) * (m - b) = m * m - (m * a + (m - a) * b) := by grind
  omega
section
variable {o a b f g m : Int} (hm : 1 ≤ m) (ha : 0 ≤ a) (haf : a ≤ f) (hf : f ≤ m) (hb : 0 ≤ b) (hbg : b ≤ g) (hg : g ≤ m)
include hm ha haf hf hb hbg hg
theorem alpha_le_shape (ho : 1 ≤ o ∧ o ≤ 12) : alphaZ o a b m ≤ shapeZ o f g m := by
  have u := union_mono haf hf hbg hg
  have p1 : a * b ≤ f * g := Int.mul_le_mul haf hbg hb (by omega)
  have p2 := Int.mul_nonneg ha hb
  have p3 : m * a ≤ m * f := Int.mul_le_mul_of_nonneg_left haf (by omega)
  have p4 : m * b ≤ m * g := Int.mul_le_mul_of_nonneg_left hbg (by omega)
  have e1 : (m - b) * a = m * a - a * b := by grind
  have e2 : (m - a) * b = m * b - a * b := by grind
  have e3 : b * a = a * b := Int.mul_comm _ _
  have e4 : f * m = m * f := Int.mul_comm _ _
  have e5 : g * m = m * g := Int.mul_comm _ _
  unfold alphaZ shapeZ facZ
  rcases ops12 ho with rfl | rfl | rfl | rfl | rfl | rfl | rfl | rfl | rfl | rfl | rfl | rfl <;> simp only [reduceIte, Int.reduceEq, Int.zero_mul, or_self, or_true, or_false]
  · exact hv_leN hm (by omega)
  · exact hv_leN hm (by omega)
  · exact hv_leN hm (by omega)
  · exact hv_mono0 hm (by omega)
  · exact hv_mono0 hm (by omega)
  · exact hv_mono0 hm (by omega)
  · exact hv_mono0 hm (by omega)
  · exact hv_leN hm (by omega)
  · exact hv_leN hm (by omega)
  · exact hv_leN hm (by omega)
  · exact hv_leN hm (by omega)
  · exact hv_mono0 hm (by omega)
end
theorem alpha_mono4 {a b c m : Int} (hm : 1 ≤ m) (ha : a ≤ m) (h : b ≤ c) : alphaZ 4 a b m ≤ alphaZ 4 a c m := by
  have : (m - a) * b ≤ (m - a) * c := Int.mul_le_mul_of_nonneg_left h (by omega)
  exact hv_mono0 hm (show m * a + (m - a) * b ≤ m * a + (m - a) * c by omega)

/-! A transparent source; a transparent backdrop. -/
def neutralO (o : Int) : Prop := o = 3 ∨ o = 4 ∨ o = 5 ∨ o = 9 ∨ o = 10 ∨ o = 12
def freshO (o : Int) : Prop := o = 2 ∨ o = 4 ∨ o = 5 ∨ o = 8 ∨ o = 11 ∨ o = 12
instance (o : Int) : Decidable (neutralO o) := by unfold neutralO; infer_instance
instance (o : Int) : Decidable (freshO o) := by unfold freshO; infer_instance
theorem mm_pos {m : Int} (hm : 1 ≤ m) : 1 ≤ m * m := by have : 1 * 1 ≤ m * m := Int.mul_le_mul hm hm (by decide) (by omega); omega
theorem fb_neutral {o b m : Int} (h : neutralO o) : (facZ o 0 b m).2 = m := by
  rcases h with rfl | rfl | rfl | rfl | rfl | rfl <;> simp [facZ]
theorem fa_fresh {o a m : Int} (h : freshO o) : (facZ o a 0 m).1 = m := by
  rcases h with rfl | rfl | rfl | rfl | rfl | rfl <;> simp [facZ]
theorem neutral_c {o k m d b : Int} (hm : 1 ≤ m) (h : neutralO o) (hk : 1 ≤ k ∧ k ≤ 12) (hd : CA d b) : mixH o k m 0 0 d b = d := by
  obtain ⟨den, ht, h1, -⟩ := term_s0 hk.1 hk.2 hd
  rw [mixH_t0 hm ht h1, fb_neutral h]
  have e : (m - b) * 0 * (facZ o 0 b m).1 + d * m * m = d * (m * m) := by grind
  rw [e, hv_exact (mm_pos hm)]
theorem fresh_c {o k m s a : Int} (hm : 1 ≤ m) (h : freshO o) (hk : 1 ≤ k ∧ k ≤ 12) : mixH o k m s a 0 0 = s := by
  obtain ⟨den, ht, h1, -⟩ := term_d0 (s := s) (a := a) hk.1 hk.2
  rw [mixH_t0 hm ht h1, fa_fresh h]
  have e : (m - 0) * s * m + 0 * m * (facZ o a 0 m).2 = s * (m * m) := by grind
  rw [e, hv_exact (mm_pos hm)]
theorem neutral_a {o b m : Int} (hm : 1 ≤ m) (h : neutralO o) : alphaZ o 0 b m = b := by
  unfold alphaZ
  rw [fb_neutral h, Int.mul_zero, Int.zero_add, hv_m hm]
theorem fresh_a {o a m : Int} (hm : 1 ≤ m) (h : freshO o) : alphaZ o a 0 m = a := by
  unfold alphaZ
  rw [fa_fresh h, Int.mul_zero, Int.add_zero, hv_m hm]
theorem neutral_f {o g m : Int} (hm : 1 ≤ m) (h : neutralO o) : shapeZ o 0 g m = g := by
  rcases h with rfl | rfl | rfl | rfl | rfl | rfl <;> simp [shapeZ, hv_m hm]
theorem fresh_f {o f m : Int} (hm : 1 ≤ m) (h : freshO o) : shapeZ o f 0 m = f := by
  rcases h with rfl | rfl | rfl | rfl | rfl | rfl <;> simp [shapeZ, hv_m hm]
theorem dst_c {k m s a d b : Int} (hm : 1 ≤ m) (hk : 1 ≤ k ∧ k ≤ 12) (hs : CA s a) (hd : CA d b) : mixH 3 k m s a d b = d := by
  have hden := (term_InR hs hd hk.1 hk.2).den
  have hf : facZ 3 a b m = (0, m) := rfl
  unfold mixH mixN mixQ mixD
  rw [hf]
  generalize termZ k s a d b = t at *
  obtain ⟨ph, p, q, r, den⟩ := t
  simp only at hden ⊢
  have mm := mm_pos hm
  have dm : 1 * 1 ≤ m * m * den := Int.mul_le_mul (by omega) hden (by decide) (by omega)
  have e1 : ((m - b) * s * den + p) * 0 + d * m * den * m = d * (m * m * den) := by grind
  have e2 : 4 * (0 * q * (0 * q) * r) = 0 := by simp
  rw [e1, e2, isq_0, hv_exact (by omega)]
theorem dst_a {a b m : Int} (hm : 1 ≤ m) : alphaZ 3 a b m = b := by
  unfold alphaZ
  have hf : facZ 3 a b m = (0, m) := rfl
  rw [hf, Int.zero_mul, Int.zero_add, hv_m hm]
theorem dst_f {f g m : Int} : shapeZ 3 f g m = g := rfl
theorem src_c {m s a d b : Int} (hm : 1 ≤ m) : mixH 2 1 m s a d b = s := by
  have hf : facZ 2 a b m = (m, 0) := rfl
  rw [mixH_frac (p := s * b) (den := 1) rfl, hf]
  have e : ((m - b) * s * 1 + s * b) * m + d * m * 1 * 0 = s * (m * m * 1) := by grind
  simp only
  rw [e, hv_exact (by have := mm_pos hm; omega)]
theorem src_a {a b m : Int} (hm : 1 ≤ m) : alphaZ 2 a b m = a := by
  unfold alphaZ
  have hf : facZ 2 a b m = (m, 0) := rfl
  rw [hf, Int.zero_mul, Int.add_zero, hv_m hm]
theorem src_f {f g m : Int} : shapeZ 2 f g m = f := rfl
theorem over_c {m s a d b : Int} (hm : 1 ≤ m) : mixH 4 1 m s a d b = ov s a d m := by
  have hf : facZ 4 a b m = (m, m - a) := rfl
  rw [mixH_frac (p := s * b) (den := 1) rfl, hf]
  have e1 : ((m - b) * s * 1 + s * b) * m + d * m * 1 * (m - a) = ((m - a) * d + s * m) * m := by grind
  simp only
  rw [e1, Int.mul_one, hv_scale0 hm hm, hv_add hm]
  unfold ov
  omega
theorem over_a {a b m : Int} (hm : 1 ≤ m) : alphaZ 4 a b m = ov a a b m := by
  have hf : facZ 4 a b m = (m, m - a) := rfl
  unfold alphaZ ov
  rw [hf]
  simp only
  rw [show m * a + (m - a) * b = (m - a) * b + a * m by grind, hv_add hm]
  omega
theorem over_f {f g m : Int} (hm : 1 ≤ m) : shapeZ 4 f g m = ov f f g m := by
  have hf : shapeZ 4 f g m = hv (m * f + (m - f) * g) 0 m := rfl
  unfold ov
  rw [hf, show m * f + (m - f) * g = (m - f) * g + f * m by grind, hv_add hm]
  omega
end Go.Proofs.YtfjhhadmncjdiaaGreatDoor
