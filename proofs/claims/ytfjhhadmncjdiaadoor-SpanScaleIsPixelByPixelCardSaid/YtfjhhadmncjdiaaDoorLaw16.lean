/- The statements of chapter 16, as plain laws: four of them. -/
import Derived.Test.YtfjhhadmncjdiaaDoorSm16d
import Derived.Test.YtfjhhadmncjdiaaDoorRwT
namespace Go.Proofs.YtfjhhadmncjdiaaDoor
set_option maxRecDepth 100000
open Go.RowKit

theorem kind_LSV1 {a b c d e : Int} (h : P16 a b c d e) : inKind (.l PX) (LSV 5 1 [.int .u16 a, .int .u16 b, .int .u16 c, .int .u16 d, .int .u16 e]) := by
  simp only [inKind]
  exact ⟨[.agg [.int .u16 a, .int .u16 b, .int .u16 c, .int .u16 d, .int .u16 e].toArray], rfl, by simp, fun x hx => ⟨_, by simpa using hx, kinds_px h⟩⟩
theorem pxo : P16 0 0 0 255 255 := ⟨⟨by decide, by decide⟩, ⟨by decide, by decide⟩, ⟨by decide, by decide⟩, ⟨by decide, by decide⟩, ⟨by decide, by decide⟩⟩
theorem pxz : P16 0 0 0 0 0 := ⟨⟨by decide, by decide⟩, ⟨by decide, by decide⟩, ⟨by decide, by decide⟩, ⟨by decide, by decide⟩, ⟨by decide, by decide⟩⟩
theorem awake16 : F_law16_awake = true := by
  have kd : inKind (.l PX) (LSV 5 2 [.int .u16 0, .int .u16 0, .int .u16 0, .int .u16 255, .int .u16 255, .int .u16 0, .int .u16 0, .int .u16 0, .int .u16 255, .int .u16 255]) := by
    simp only [inKind]
    exact ⟨[.agg [.int .u16 0, .int .u16 0, .int .u16 0, .int .u16 255, .int .u16 255].toArray, .agg [.int .u16 0, .int .u16 0, .int .u16 0, .int .u16 255, .int .u16 255].toArray], rfl, by simp, fun x hx => ⟨_, by simpa using hx, kinds_px pxo⟩⟩
  have c1 : F_span_Classify (LSV 5 2 [.int .u16 0, .int .u16 0, .int .u16 0, .int .u16 255, .int .u16 255, .int .u16 0, .int .u16 0, .int .u16 0, .int .u16 255, .int .u16 255]) 255 = 2 := by
    rw [pCls kd]
    rfl
  have c2 : F_span_Classify NILV 255 = 1 := by
    rw [pCls kind_nil]
    rfl
  have o : PV 0 0 0 255 255 255 := pxo.pv (by decide)
  have z : PV 0 0 0 0 0 255 := PV.zero (by decide)
  have cm : F_pixel_Composite 4 1 255 0 0 0 255 255 0 0 0 0 0 = (0, 0, 0, 255, 255, true) := by
    rw [compV (by decide) (by decide) (by decide) o z]
    unfold compZ
    rw [over_c (by decide), over_a (by decide), over_f (by decide), ov_full (by decide), ov_full (by decide)]
  have sp := spanC (kind_LSV1 pxo) (kind_LSV1 pxz) rfl (by decide) 4 1 255
  have e : (allI (fun j => (cmp2 4 1 255 (IX (LSV 5 1 [.int .u16 0, .int .u16 0, .int .u16 0, .int .u16 255, .int .u16 255]) j) (IX (LSV 5 1 [.int .u16 0, .int .u16 0, .int .u16 0, .int .u16 0, .int .u16 0]) j)).2.2.2.2.2) 0 (LN (LSV 5 1 [.int .u16 0, .int .u16 0, .int .u16 0, .int .u16 255, .int .u16 255]))) = true := by
    refine allI_iff.2 fun j h0 h1 => ?_
    have : j < 1 := h1
    obtain rfl : j = 0 := by omega
    exact (congrArg (fun x : Int × Int × Int × Int × Int × Bool => x.2.2.2.2.2) cm)
  rw [e, cond_true] at sp
  have hp : pre_span_Composite [.int .i64 4, .int .i64 1, .int .u16 255, (LSV 5 1 [.int .u16 0, .int .u16 0, .int .u16 0, .int .u16 255, .int .u16 255]), (LSV 5 1 [.int .u16 0, .int .u16 0, .int .u16 0, .int .u16 0, .int .u16 0])] = true := rfl
  rw [F_law16_awake_eq, hp, c1, c2, sp]
  have hx : (bld (fun j => pk6 (cmp2 4 1 255 (IX (LSV 5 1 [.int .u16 0, .int .u16 0, .int .u16 0, .int .u16 255, .int .u16 255]) j) (IX (LSV 5 1 [.int .u16 0, .int .u16 0, .int .u16 0, .int .u16 0, .int .u16 0]) j))) 0 (LN (LSV 5 1 [.int .u16 0, .int .u16 0, .int .u16 0, .int .u16 255, .int .u16 255])) NILV) = .agg #[.agg (pk6 (0, 0, 0, 255, 255, true)).toArray] :=
    congrArg (fun x : Int × Int × Int × Int × Int × Bool => Value.agg #[.agg (pk6 x).toArray]) cm
  rw [hx]
  rfl

theorem spanOfNothing (p0 p1 p2 p3 : Int) (p4 : Bool) : F_law16_SpanOfNothing p0 p1 p2 p3 p4 = true := by
  have n0 : LN NILV = 0 := LN_nil
  have c := spanC (s := NILV) (d := NILV) kind_nil kind_nil rfl (by rw [n0]; decide) p0 p1 p2
  have s := spanS (l := NILV) (k := NILV) (.inl n0) (by rw [n0]; decide) p3 p2
  have t := spanT (s := NILV) (a := NILV) (b := NILV) rfl rfl (by rw [n0]; decide) p4 p0 p1 p2
  have r := spanR (a := NILV) (b := NILV) rfl (by rw [n0]; decide) p2
  have t' := spanT_rej (s := NILV) (a := NILV) (b := RP [.int .u16 0, .int .u16 0, .int .u16 0, .int .u16 0, .int .u16 0] 1) rfl (by decide) p4 p0 p1 p2
  have r' := spanR_rej (a := RP [.int .u16 0, .int .u16 0, .int .u16 0, .int .u16 0, .int .u16 0, .int .u16 0] 1) (b := NILV) (by decide) p2
  rw [allI_end (by rw [n0]; exact Int.le_refl 0), cond_true] at c s t r
  rw [F_law16_SpanOfNothing_eq, awake16, c, s, t, r, t', r']
  rfl
theorem spanClassifyAgrees (p0 : Int) (p1 : Value) (p2 p3 : Int) {p4 : Value} (k4 : inKind (.l PX) p4) (p5 : Int) : F_law16_SpanClassifyAgrees p0 p1 p2 p3 p4 p5 = true := by
  have hc := mod_bd p2 (n := 12) (by decide) (by decide)
  have hm := mMax p3
  have h1 : F_gen_Mod p2 12 ≤ 1000 := by omega
  have g := (gPixels (mood := p0) (l := p1) hm.2.1 hm.2.2 h1 hc.1).1.1
  rw [F_law16_SpanClassifyAgrees_eq]
  simp only [pre_pixels h1 hc.1, awake16, pCls g, rCls g, pCls k4, rCls k4, beq_self_eq_true, cond_true]
theorem law_loop_c {m o k n : Int} {s d x : Value} (hs : VR m s) (hd : VR m d) (hm : m = 255 ∨ m = 65535) (ho : 1 ≤ o ∧ o ≤ 12) (hk : 1 ≤ k ∧ k ≤ 12) (h1 : n = LN s) (h2 : LN d = n) (h4 : n ≤ 1000) (hx : x = bld (fun j => pk6 (cmp2 o k m (IX s j) (IX d j))) 0 n NILV) :
    ∀ i, 0 ≤ i → i ≤ n → LF_law16_SpanCompositeIsPixelByPixel_7 [.int .u16 m, .int .i64 o, .int .i64 k, .int .i64 n, s, d, x, .int .i64 i] = [.int .i64 1] :=
  up_to (fun i h0 hi ih => by
    have w1 : IntKind.i64.wrap (i + 1) = i + 1 := i64_in (by omega) (by omega)
    have ps := hs.2 i h0 (by omega)
    have pd := hd.2 i h0 (by omega)
    have cv : cmp2 o k m (IX s i) (IX d i) = _ := compV hm ho hk ps pd
    have rc : F_ref06_Composite o k m (C1 (IX s i)) (C2 (IX s i)) (C3 (IX s i)) (C4 (IX s i)) (C5 (IX s i)) (C1 (IX d i)) (C2 (IX d i)) (C3 (IX d i)) (C4 (IX d i)) (C5 (IX d i)) = cmp2 o k m (IX s i) (IX d i) := by
      have m1 : Is16 m := ⟨by omega, by omega⟩
      unfold cmp2
      rw [rComp m1 (ps.p16 m1.2) (pd.p16 m1.2), pComp m1 (ps.p16 m1.2) (pd.p16 m1.2)]
    have hok : (cmp2 o k m (IX s i) (IX d i)).2.2.2.2.2 = true := by rw [cv]; rfl
    rw [LF_law16_SpanCompositeIsPixelByPixel_7_go]
    unfold OUT_law16_SpanCompositeIsPixelByPixel_7
    have xi : IX x i = .agg (pk6 (cmp2 o k m (IX s i) (IX d i))).toArray := by rw [hx, IX_bld0 h0 hi]
    have xl : INB x i = true := INB_of h0 (by rw [hx, LN_bld0 (by omega)]; omega)
    have pc : F_pixel_Composite o k m (num (CV (IX s i) 0)) (num (CV (IX s i) 1)) (num (CV (IX s i) 2)) (num (CV (IX s i) 3)) (num (CV (IX s i) 4)) (num (CV (IX d i) 0)) (num (CV (IX d i) 1)) (num (CV (IX d i) 2)) (num (CV (IX d i) 3)) (num (CV (IX d i) 4)) = cmp2 o k m (IX s i) (IX d i) := rfl
    have rc' : F_ref06_Composite o k m (num (CV (IX s i) 0)) (num (CV (IX s i) 1)) (num (CV (IX s i) 2)) (num (CV (IX s i) 3)) (num (CV (IX s i) 4)) (num (CV (IX d i) 0)) (num (CV (IX d i) 1)) (num (CV (IX d i) 2)) (num (CV (IX d i) 3)) (num (CV (IX d i) 4)) = cmp2 o k m (IX s i) (IX d i) := rc
    rw [decide_eq_true hi, INB_of (l := s) h0 (by omega), INB_of (l := d) h0 (by omega), xl, w1, xi]
    simp only [cond_true, pc, rc', hok]
    generalize cmp2 o k m (IX s i) (IX d i) = y at *
    simp only [pk6, CV_cons0, CV_cons, num_int, beq_self_eq_true, Bool.and_self, Bool.not_true, cond_false, goOn_next, ih]) (by
    rw [LF_law16_SpanCompositeIsPixelByPixel_7_go]
    unfold OUT_law16_SpanCompositeIsPixelByPixel_7
    rw [decide_eq_false (by omega)]
    rfl)
theorem spanCompositeIsPixelByPixel (p0 p1 p2 : Int) (p3 : Value) (p4 : Int) (p5 : Value) (p6 p7 : Int) : F_law16_SpanCompositeIsPixelByPixel p0 p1 p2 p3 p4 p5 p6 p7 = true := by
  have hc := mod_bd p6 (n := 10) (by decide) (by decide)
  have hm := mMax p7
  have h1 : F_gen_Mod p6 10 ≤ 1000 := by omega
  obtain ⟨gs, ls⟩ := gPixels (mood := p2) (l := p3) hm.2.1 hm.2.2 h1 hc.1
  obtain ⟨gd, ld⟩ := gPixels (mood := p4) (l := p5) hm.2.1 hm.2.2 h1 hc.1
  have ho := mode12 p0
  have hk := mode12 p1
  rw [F_law16_SpanCompositeIsPixelByPixel_eq]
  simp only [pre_pixels h1 hc.1, awake16, cond_true, Bool.not_true, cond_false]
  generalize F_gen_Pixels p2 p3 (F_gen_Mod p6 10) (F_gen_Max p7) = s at *
  generalize F_gen_Pixels p4 p5 (F_gen_Mod p6 10) (F_gen_Max p7) = d at *
  generalize IntKind.i64.wrap (1 + F_gen_Mod p0 12) = o at *
  generalize IntKind.i64.wrap (1 + F_gen_Mod p1 12) = k at *
  generalize F_gen_Max p7 = m at *
  generalize F_gen_Mod p6 10 = n at *
  have sp := spanC gs.1 gd.1 (by omega) (by omega) o k m
  have ok : allI (fun j => (cmp2 o k m (IX s j) (IX d j)).2.2.2.2.2) 0 (LN s) = true := allI_iff.2 fun j j0 j1 => by
    have cv : cmp2 o k m (IX s j) (IX d j) = _ := compV hm.1 ho hk (gs.2 j j0 j1) (gd.2 j j0 (by omega))
    rw [cv]
    rfl
  rw [ok, cond_true] at sp
  rw [ls] at sp
  obtain ⟨x, hx⟩ : ∃ x, x = bld (fun j => pk6 (cmp2 o k m (IX s j) (IX d j))) 0 n NILV := ⟨_, rfl⟩
  have lx : LN x = n := by rw [hx, LN_bld0 hc.1]
  have lp := law_loop_c gs gd hm.1 ho hk ls.symm ld h1 hx 0 (Int.le_refl 0) hc.1
  rw [← hx] at sp
  rw [pre_comp (by omega) (by omega), sp]
  simp only [cond_true, cond_false, Bool.not_true]
  rw [lx, pre_lc7 ls.symm ld lx h1, bne_self_eq_false]
  simp only [cond_true, cond_false]
  rw [lp]
  rfl
theorem law_loop_s {m o n : Int} {s k x : Value} {t : Bool} (hm : m = 255 ∨ m = 65535) (hs : VR m s) (hk : MR m k) (h1 : LN s = n) (ht : t = true → LN k = n) (hf : t = false → k = NILV) (o0 : 0 ≤ o) (o1 : o ≤ m) (h4 : n ≤ 1000) (hx : x = bld (fun j => pk6 (sclAt s k o m j)) 0 n NILV) :
    ∀ i, 0 ≤ i → i ≤ n → LF_law16_SpanScaleIsPixelByPixel_12 [.bool t, .int .u16 m, .int .i64 n, s, .int .u16 o, k, x, .int .i64 i] = [.int .i64 1] :=
  up_to (fun i h0 hi ih => by
    have w1 : IntKind.i64.wrap (i + 1) = i + 1 := i64_in (by omega) (by omega)
    have hk' : LN k = 0 ∨ LN k = LN s := by
      cases t
      · rw [hf rfl]; exact .inl LN_nil
      · exact .inr (by rw [ht rfl, h1])
    have hok := sclAt_ok hm hs hk hk' o0 o1 h0 (show i < LN s by omega)
    rw [LF_law16_SpanScaleIsPixelByPixel_12_go]
    unfold OUT_law16_SpanScaleIsPixelByPixel_12
    have xi : IX x i = .agg (pk6 (sclAt s k o m i)).toArray := by rw [hx, IX_bld0 h0 hi]
    have xl : INB x i = true := INB_of h0 (by rw [hx, LN_bld0 (by omega)]; omega)
    rw [decide_eq_true hi, xl, w1, xi, INB_of (l := s) h0 (by omega)]
    cases t
    · have e : decide (LN k > 0) = false := by rw [hf rfl]; rfl
      have pc : F_scale_Both (num (CV (IX s i) 0)) (num (CV (IX s i) 1)) (num (CV (IX s i) 2)) (num (CV (IX s i) 3)) (num (CV (IX s i) 4)) m o m = sclAt s k o m i := by
        unfold sclAt
        rw [e]
        rfl
      simp only [cond_true, cond_false, pc, hok]
      generalize sclAt s k o m i = y at *
      simp only [pk6, CV_cons0, CV_cons, num_int, beq_self_eq_true, Bool.and_self, Bool.not_true, cond_false, goOn_next, ih]
    · have e : decide (LN k > 0) = true := decide_eq_true (by rw [ht rfl]; omega)
      have pc : F_scale_Both (num (CV (IX s i) 0)) (num (CV (IX s i) 1)) (num (CV (IX s i) 2)) (num (CV (IX s i) 3)) (num (CV (IX s i) 4)) (num (CV (IX k i) 0)) o m = sclAt s k o m i := by
        unfold sclAt
        rw [e]
        rfl
      simp only [INB_of (l := k) h0 (by rw [ht rfl]; exact hi), cond_true, pc, hok]
      generalize sclAt s k o m i = y at *
      simp only [pk6, CV_cons0, CV_cons, num_int, beq_self_eq_true, Bool.and_self, Bool.not_true, cond_false, goOn_next, ih]) (by
    rw [LF_law16_SpanScaleIsPixelByPixel_12_go]
    unfold OUT_law16_SpanScaleIsPixelByPixel_12
    rw [decide_eq_false (by omega)]
    rfl)
theorem spanScaleIsPixelByPixel (p0 : Int) (p1 p2 : Value) (p3 : Bool) (p4 p5 p6 : Int) : F_law16_SpanScaleIsPixelByPixel p0 p1 p2 p3 p4 p5 p6 = true := by
  have hc := mod_bd p5 (n := 10) (by decide) (by decide)
  have hm := mMax p6
  have h1 : F_gen_Mod p5 10 ≤ 1000 := by omega
  obtain ⟨gs, ls⟩ := gPixels (mood := p0) (l := p1) hm.2.1 hm.2.2 h1 hc.1
  have go := gSampleM p4 hm.2.1 hm.2.2
  rw [F_law16_SpanScaleIsPixelByPixel_eq]
  simp only [pre_pixels h1 hc.1, awake16, cond_true, Bool.not_true, cond_false]
  generalize F_gen_Pixels p0 p1 (F_gen_Mod p5 10) (F_gen_Max p6) = s at *
  generalize F_gen_Sample p4 (F_gen_Max p6) = o at *
  generalize F_gen_Max p6 = m at *
  generalize F_gen_Mod p5 10 = n at *
  obtain ⟨k, e, hk, ht, hf⟩ := maskLoop (a := p2) (t := p3) (l := s) (o := o) hm.2.1 hm.2.2 h1 0 (Int.le_refl 0) hc.1 NILV MR.nil LN_nil (fun _ => rfl)
  have hk' : LN k = 0 ∨ LN k = LN s := by
    cases p3
    · rw [hf rfl]; exact .inl LN_nil
    · exact .inr (by rw [ht rfl, ls])
  have sp := spanS hk' (by omega) o m
  rw [allI_iff.2 (fun j j0 j1 => sclAt_ok hm.1 gs hk hk' go.1 go.2 j0 j1), cond_true, ls] at sp
  obtain ⟨x, hx⟩ : ∃ x, x = bld (fun j => pk6 (sclAt s k o m j)) 0 n NILV := ⟨_, rfl⟩
  have lx : LN x = n := by rw [hx, LN_bld0 hc.1]
  have lp := law_loop_s hm.1 gs hk ls ht hf go.1 go.2 h1 hx 0 (Int.le_refl 0) hc.1
  rw [← hx] at sp
  rw [pre_ls5 h1, cond_true, e]
  simp only [List.getD_cons_succ, List.getD_cons_zero, num, tru]
  rw [pre_scal (by omega), sp]
  simp only [cond_true, cond_false, Bool.not_true]
  rw [lx, pre_ls12 ls ht lx h1, bne_self_eq_false]
  simp only [cond_true, cond_false]
  rw [lp]
  rfl
end Go.Proofs.YtfjhhadmncjdiaaDoor
