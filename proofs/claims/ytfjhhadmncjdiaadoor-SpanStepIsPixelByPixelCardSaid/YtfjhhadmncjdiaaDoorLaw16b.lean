/- The statement of steps and results of rows, as a plain law. -/
import Derived.Test.YtfjhhadmncjdiaaDoorSm16e
namespace Go.Proofs.YtfjhhadmncjdiaaDoor
set_option maxRecDepth 100000
open Go.RowKit

theorem law_loop_t {t : Bool} {m o k n : Int} {s a b x y : Value} (hm : m = 255 ∨ m = 65535) (ho : 1 ≤ o ∧ o ≤ 12) (hk : 1 ≤ k ∧ k ≤ 12) (ht : t = true → o = 4) (hs : VR m s) (ha : AR m a) (hb : BR m b) (h1 : LN s = n) (h2 : LN a = n) (h3 : LN b = n) (h4 : n ≤ 1000)
    (hx : x = bld (fun j => pk7 (stp t o k m (IX s j) (IX a j) (IX b j))) 0 n NILV) (hy : y = bld (fun j => pk6 (resAt a b m j)) 0 n NILV) :
    ∀ i, 0 ≤ i → i ≤ n → LF_law16_SpanStepIsPixelByPixel_21 [.bool t, .int .u16 m, .int .i64 o, .int .i64 k, .int .i64 n, s, a, b, x, y, .int .i64 i] = [.int .i64 1] :=
  up_to (fun i h0 hi ih => by
    have w1 : IntKind.i64.wrap (i + 1) = i + 1 := i64_in (by omega) (by omega)
    have hok := stp_ok (t := t) (o := o) (k := k) hm ho hk ht (hs.2 i h0 (by omega)) (ha.2 i h0 (by omega)) (hb.1.2 i h0 (by omega)) (hb.2 i h0 (by omega))
    have hrk := res_ok (a := a) (b := b) (j := i) hm (ha.2 i h0 (by omega)) (hb.1.2 i h0 (by omega)) (hb.2 i h0 (by omega))
    rw [LF_law16_SpanStepIsPixelByPixel_21_go]
    unfold OUT_law16_SpanStepIsPixelByPixel_21
    have xi : IX x i = .agg (pk7 (stp t o k m (IX s i) (IX a i) (IX b i))).toArray := by rw [hx, IX_bld0 h0 hi]
    have yi : IX y i = .agg (pk6 (resAt a b m i)).toArray := by rw [hy, IX_bld0 h0 hi]
    have xl : INB x i = true := INB_of h0 (by rw [hx, LN_bld0 (by omega)]; omega)
    have yl : INB y i = true := INB_of h0 (by rw [hy, LN_bld0 (by omega)]; omega)
    have pc : F_group_Step t o k m (num (CV (IX s i) 0)) (num (CV (IX s i) 1)) (num (CV (IX s i) 2)) (num (CV (IX s i) 3)) (num (CV (IX s i) 4)) (num (CV (IX a i) 0)) (num (CV (IX a i) 1)) (num (CV (IX a i) 2)) (num (CV (IX a i) 3)) (num (CV (IX a i) 4)) (num (CV (IX a i) 5)) (num (CV (IX b i) 0)) (num (CV (IX b i) 1)) (num (CV (IX b i) 2)) (num (CV (IX b i) 3)) (num (CV (IX b i) 4)) = stp t o k m (IX s i) (IX a i) (IX b i) := rfl
    have rc : F_group_Result (num (CV (IX a i) 0)) (num (CV (IX a i) 1)) (num (CV (IX a i) 2)) (num (CV (IX a i) 3)) (num (CV (IX a i) 4)) (num (CV (IX a i) 5)) (num (CV (IX b i) 0)) (num (CV (IX b i) 1)) (num (CV (IX b i) 2)) (num (CV (IX b i) 3)) (num (CV (IX b i) 4)) m = resAt a b m i := rfl
    rw [decide_eq_true hi, INB_of (l := s) h0 (by omega), INB_of (l := a) h0 (by omega), INB_of (l := b) h0 (by omega), xl, yl, w1, xi, yi]
    simp only [cond_true, pc, rc, hok, hrk]
    generalize stp t o k m (IX s i) (IX a i) (IX b i) = u at *
    generalize resAt a b m i = v at *
    simp only [pk7, pk6, CV_cons0, CV_cons, num_int, beq_self_eq_true, Bool.and_self, Bool.not_true, cond_false, goOn_next, ih]) (by
    rw [LF_law16_SpanStepIsPixelByPixel_21_go]
    unfold OUT_law16_SpanStepIsPixelByPixel_21
    rw [decide_eq_false (by omega)]
    rfl)
/-- What the statement asks of one operator. -/
theorem step_part {t : Bool} {m o k n : Int} {s a b c : Value} (hm : m = 255 ∨ m = 65535) (ho : 1 ≤ o ∧ o ≤ 12) (hk : 1 ≤ k ∧ k ≤ 12) (ht : t = true → o = 4) (hs : VR m s) (h1 : LN s = n) (hn : 0 ≤ n) (h4 : n ≤ 1000) (m0 : 0 ≤ m) (m1 : m ≤ 65535) :
    ∃ x y u v, LF_law16_SpanStepIsPixelByPixel_8 [.bool t, a, b, c, .int .u16 m, .int .i64 o, .int .i64 k, .int .i64 n, s, .int .i64 0, NILV, NILV] = [.int .i64 0, .bool t, .int .u16 m, .int .i64 o, .int .i64 k, .int .i64 n, s, x, y] ∧ LN x = n ∧ LN y = n ∧
      F_span_Step t o k m s x y = (u, true) ∧ F_span_Result x y m = (v, true) ∧ LN u = n ∧ LN v = n ∧ LF_law16_SpanStepIsPixelByPixel_21 [.bool t, .int .u16 m, .int .i64 o, .int .i64 k, .int .i64 n, s, x, y, u, v, .int .i64 0] = [.int .i64 1] := by
  obtain ⟨x, y, e, hx, hy, lx, ly⟩ := accLoop (t := t) (a := a) (b := b) (w := c) (s := s) (o := o) (k := k) m0 m1 h4 0 (Int.le_refl 0) hn NILV NILV AR.nil BR.nil LN_nil LN_nil
  have st := spanT (s := s) (a := x) (b := y) (by omega) (by omega) (by omega) t o k m
  rw [allI_iff.2 (fun j j0 j1 => stp_ok hm ho hk ht (hs.2 j j0 j1) (hx.2 j j0 (by omega)) (hy.1.2 j j0 (by omega)) (hy.2 j j0 (by omega))), cond_true, h1] at st
  have sr := spanR (a := x) (b := y) (by omega) (by omega) m
  rw [allI_iff.2 (fun j j0 j1 => res_ok (a := x) (b := y) (j := j) hm (hx.2 j j0 j1) (hy.1.2 j j0 (by omega)) (hy.2 j j0 (by omega))), cond_true, lx] at sr
  exact ⟨x, y, _, _, e, lx, ly, st, sr, LN_bld0 hn, LN_bld0 hn, law_loop_t hm ho hk ht hs hx hy h1 lx ly h4 rfl rfl 0 (Int.le_refl 0) hn⟩
theorem spanStepIsPixelByPixel (p0 : Bool) (p1 p2 p3 : Int) (p4 p5 p6 p7 : Value) (p8 p9 : Int) : F_law16_SpanStepIsPixelByPixel p0 p1 p2 p3 p4 p5 p6 p7 p8 p9 = true := by
  have hc := mod_bd p8 (n := 8) (by decide) (by decide)
  have hm := mMax p9
  have h1 : F_gen_Mod p8 8 ≤ 1000 := by omega
  obtain ⟨gs, ls⟩ := gPixels (mood := p3) (l := p4) hm.2.1 hm.2.2 h1 hc.1
  have hk := mode12 p2
  rw [F_law16_SpanStepIsPixelByPixel_eq]
  simp only [pre_pixels h1 hc.1, pre_lt8 h1, awake16, cond_true, Bool.not_true, cond_false]
  generalize F_gen_Pixels p3 p4 (F_gen_Mod p8 8) (F_gen_Max p9) = s at *
  cases p0
  · obtain ⟨x, y, u, v, e, lx, ly, e1, e2, lu, lv, e3⟩ := step_part (t := false) (a := p5) (b := p6) (c := p7) hm.1 (mode12 p1) hk (fun h => by cases h) gs ls hc.1 h1 hm.2.1 hm.2.2
    rw [cond_false, e]
    simp only [List.getD_cons_succ, List.getD_cons_zero, num, tru]
    rw [pre_step (by omega), pre_resu (by omega), cond_true, cond_true, e1, e2]
    simp only [Bool.not_true, cond_false]
    rw [lu, lv, bne_self_eq_false, cond_false, cond_false, pre_lt21 ls lx ly lu lv h1, cond_true, e3]
    rfl
  · obtain ⟨x, y, u, v, e, lx, ly, e1, e2, lu, lv, e3⟩ := step_part (t := true) (o := 4) (a := p5) (b := p6) (c := p7) hm.1 (by decide) hk (fun _ => rfl) gs ls hc.1 h1 hm.2.1 hm.2.2
    rw [cond_true, e]
    simp only [List.getD_cons_succ, List.getD_cons_zero, num, tru]
    rw [pre_step (by omega), pre_resu (by omega), cond_true, cond_true, e1, e2]
    simp only [Bool.not_true, cond_false]
    rw [lu, lv, bne_self_eq_false, cond_false, cond_false, pre_lt21 ls lx ly lu lv h1, cond_true, e3]
    rfl
end Go.Proofs.YtfjhhadmncjdiaaDoor
