/- The statements of chapter 10 that reach no laid variable, as plain laws. -/
import Derived.Test.YthldhjipjihmoaaMath10
import Derived.Test.YthldhjipjihmoaaSm10b
namespace Go.Proofs.Ythldhjipjihmoaa
open Go.RowKit

theorem gSampleM (x : Int) {m : Int} (h0 : 0 ≤ m) (h1 : m ≤ 65535) : 0 ≤ F_gen_Sample x m ∧ F_gen_Sample x m ≤ m := gSample_le x ⟨h0, h1⟩
theorem gAlphaM (x y : Int) {m : Int} (h0 : 0 ≤ m) (h1 : m ≤ 65535) : 0 ≤ (F_gen_Alpha x y m).1 ∧ (F_gen_Alpha x y m).1 ≤ (F_gen_Alpha x y m).2 ∧ (F_gen_Alpha x y m).2 ≤ m := by
  have h := gSampleM y h0 h1
  have k := gSampleM x h.1 (Int.le_trans h.2 h1)
  rw [F_gen_Alpha_eq]
  simp only
  exact ⟨k.1, k.2, h.2⟩
theorem mMax (x : Int) : (F_gen_Max x = 255 ∨ F_gen_Max x = 65535) ∧ 0 ≤ F_gen_Max x ∧ F_gen_Max x ≤ 65535 := by
  have := gMax_or x
  exact ⟨this, by omega, by omega⟩
theorem sourceM (x y z : Int) {m : Int} (h0 : 0 ≤ m) (h1 : m ≤ 65535) : 0 ≤ (F_law10_source x y z m).1 ∧ (F_law10_source x y z m).1 ≤ (F_law10_source x y z m).2.1 ∧ (F_law10_source x y z m).2.1 ≤ (F_law10_source x y z m).2.2 ∧ (F_law10_source x y z m).2.2 ≤ m := by
  have a := gSampleM z h0 h1
  have b := gSampleM y a.1 (Int.le_trans a.2 h1)
  have c := gSampleM x b.1 (Int.le_trans b.2 (Int.le_trans a.2 h1))
  rw [F_law10_source_eq]
  simp only
  exact ⟨c.1, c.2, b.2, a.2⟩
theorem colors {k m s a f c d b : Int} (m1 : Is16 m) (s1 : Is16 s) (a1 : Is16 a) (f1 : Is16 f) (c1 : Is16 c) (d1 : Is16 d) (b1 : Is16 b) : F_knockout_Color k m s a f c d b = F_ref06_KnockColor k m s a f c d b := by
  rw [kColor s1 a1 f1 c1 d1 b1 m1, rColor s1 a1 f1 c1 d1 b1]
theorem alphas {m a f c b : Int} (m1 : Is16 m) (a1 : Is16 a) (f1 : Is16 f) (c1 : Is16 c) (b1 : Is16 b) : F_knockout_Alpha m a f c b = F_ref06_KnockAlpha m a f c b := by
  rw [kAl a1 f1 c1 b1 m1, rAl a1 f1 c1 b1]
theorem owns {m a f c : Int} (m1 : Is16 m) (a1 : Is16 a) (f1 : Is16 f) (c1 : Is16 c) : F_knockout_Own m a f c = F_ref06_KnockOwn m a f c := by
  rw [kOwn, rOwn, alphas m1 a1 f1 c1 zero16]

theorem knockoutColorAgrees (p0 p1 p2 p3 p4 p5 p6 p7 : Int) {p8 p9 p10 p11 p12 p13 p14 : Int} (h8 : Is16 p8) (h9 : Is16 p9) (h10 : Is16 p10) (h11 : Is16 p11) (h12 : Is16 p12) (h13 : Is16 p13) (h14 : Is16 p14) : F_law10_KnockoutColorAgrees p0 p1 p2 p3 p4 p5 p6 p7 p8 p9 p10 p11 p12 p13 p14 = true := by
  have hm := mMax p7
  have hs := sourceM p1 p2 p3 hm.2.1 hm.2.2
  have ha := gAlphaM p5 p6 hm.2.1 hm.2.2
  have hc := gSampleM p4 hm.2.1 hm.2.2
  rw [F_law10_KnockoutColorAgrees_eq]
  have i65 : Is16 65535 := ⟨by decide, by decide⟩
  simp only [awake10, colors h14 h8 h9 h10 h11 h12 h13, colors i65 h8 h9 h10 h11 h12 h13, colors (m := F_gen_Max p7) ⟨by omega, by omega⟩ (s := (F_law10_source p1 p2 p3 (F_gen_Max p7)).1) ⟨by omega, by omega⟩ (a := (F_law10_source p1 p2 p3 (F_gen_Max p7)).2.1) ⟨by omega, by omega⟩ (f := (F_law10_source p1 p2 p3 (F_gen_Max p7)).2.2) ⟨by omega, by omega⟩ (c := F_gen_Sample p4 (F_gen_Max p7)) ⟨by omega, by omega⟩ (d := (F_gen_Alpha p5 p6 (F_gen_Max p7)).1) ⟨by omega, by omega⟩ (b := (F_gen_Alpha p5 p6 (F_gen_Max p7)).2) ⟨by omega, by omega⟩, beq_self_eq_true, cond_true]
theorem knockoutAlphaAgrees (p0 p1 p2 p3 p4 : Int) {p5 p6 p7 p8 p9 : Int} (h5 : Is16 p5) (h6 : Is16 p6) (h7 : Is16 p7) (h8 : Is16 p8) (h9 : Is16 p9) : F_law10_KnockoutAlphaAgrees p0 p1 p2 p3 p4 p5 p6 p7 p8 p9 = true := by
  have hm := mMax p4
  have ha := gAlphaM p0 p1 hm.2.1 hm.2.2
  have hc := gSampleM p2 hm.2.1 hm.2.2
  have hb := gSampleM p3 hm.2.1 hm.2.2
  rw [F_law10_KnockoutAlphaAgrees_eq]
  simp only [awake10, alphas h9 h5 h6 h7 h8, owns h9 h5 h6 h7, alphas (m := F_gen_Max p4) ⟨by omega, by omega⟩ (a := (F_gen_Alpha p0 p1 (F_gen_Max p4)).1) ⟨by omega, by omega⟩ (f := (F_gen_Alpha p0 p1 (F_gen_Max p4)).2) ⟨by omega, by omega⟩ (c := F_gen_Sample p2 (F_gen_Max p4)) ⟨by omega, by omega⟩ (b := F_gen_Sample p3 (F_gen_Max p4)) ⟨by omega, by omega⟩, owns (m := F_gen_Max p4) ⟨by omega, by omega⟩ (a := (F_gen_Alpha p0 p1 (F_gen_Max p4)).1) ⟨by omega, by omega⟩ (f := (F_gen_Alpha p0 p1 (F_gen_Max p4)).2) ⟨by omega, by omega⟩ (c := F_gen_Sample p2 (F_gen_Max p4)) ⟨by omega, by omega⟩, beq_self_eq_true, cond_true]

/-! KnockoutReplaces -/
theorem kFull (k m s a c c' d b : Int) : kHalf k m s a m c d b = kHalf k m s a m c' d b := by
  unfold kHalf
  rw [Int.sub_self, Int.zero_mul, Int.zero_mul]
theorem kNone {k m c d b : Int} (hk : 1 ≤ k ∧ k ≤ 12) (hd : CA d b) (hm : 1 ≤ m) : kHalf k m 0 0 0 c d b = c := by
  obtain ⟨den, ht, h1, -⟩ := term_s0 hk.1 hk.2 hd
  unfold kHalf rootT
  rw [ht]
  simp only
  rw [show (4 * ((0 : Int) * 0 * 0)) = 0 by decide, isq_0]
  have e : ((m - 0) * c + (0 - 0) * d + (m - b) * 0) * den + 0 = c * (m * den) := by grind
  rw [e]
  exact hv_exact (by have : 1 * 1 ≤ m * den := Int.mul_le_mul hm h1 (by decide) (by omega); omega)
theorem aFull (m a c c' b : Int) : kAlpha m a m c b = kAlpha m a m c' b := by
  unfold kAlpha
  rw [Int.sub_self, Int.zero_mul, Int.zero_mul]
theorem aNone {m c b : Int} (hm : 1 ≤ m) : kAlpha m 0 0 c b = c := by
  unfold kAlpha
  have e : (m - 0) * c + (0 - 0) * b + m * 0 = c * m := by grind
  rw [e]
  exact hv_exact hm
theorem knockoutReplaces (p0 p1 p2 p3 p4 p5 p6 p7 : Int) : F_law10_KnockoutReplaces p0 p1 p2 p3 p4 p5 p6 p7 = true := by
  have hm := mMax p7
  have hs := gAlphaM p1 p2 hm.2.1 hm.2.2
  have hd := gAlphaM p5 p6 hm.2.1 hm.2.2
  have hp := gSampleM p3 hm.2.1 hm.2.2
  have hq := gSampleM p4 hm.2.1 hm.2.2
  have hk := mode12 p0
  rw [F_law10_KnockoutReplaces_eq]
  simp only [awake10]
  generalize IntKind.i64.wrap (1 + F_gen_Mod p0 12) = k at *
  generalize F_gen_Max p7 = m at *
  generalize F_gen_Alpha p1 p2 m = x at *
  generalize F_gen_Alpha p5 p6 m = y at *
  generalize F_gen_Sample p3 m = p at *
  generalize F_gen_Sample p4 m = q at *
  obtain ⟨s, a⟩ := x
  obtain ⟨d, b⟩ := y
  simp only at hs hd ⊢
  have im : Is16 m := ⟨by omega, by omega⟩
  have is : Is16 s := ⟨by omega, by omega⟩
  have ia : Is16 a := ⟨by omega, by omega⟩
  have id : Is16 d := ⟨by omega, by omega⟩
  have ib : Is16 b := ⟨by omega, by omega⟩
  have ip : Is16 p := ⟨by omega, by omega⟩
  have iq : Is16 q := ⟨by omega, by omega⟩
  have cd : CA d b := ⟨hd.1, hd.2.1, by omega⟩
  rw [kOwn, kColor is ia im ip id ib im, kColor is ia im iq id ib im, kColor zero16 zero16 zero16 ip id ib im, kAl ia im ip ib im, kAl ia im iq ib im, kAl zero16 zero16 ip ib im, kAl zero16 zero16 iq zero16 im,
    if_pos (by unfold KV; omega), if_pos (by unfold KV; omega), if_pos (by unfold KV; omega), if_pos (by unfold KA; omega), if_pos (by unfold KA; omega), if_pos (by unfold KA; omega), if_pos (by unfold KA; omega),
    kFull k m s a p q, aFull m a p q, kNone hk cd (by omega), aNone (by omega), aNone (by omega)]
  simp
end Go.Proofs.Ythldhjipjihmoaa
