/- The statements of chapter 12 over plain data, as plain laws. -/
import Derived.Test.YtjgmipklbpghfaaDoorGrp
import Derived.Test.YtjgmipklbpghfaaDoorSm12b
namespace Go.Proofs.YtjgmipklbpghfaaDoor
open Go.RowKit

/-- A valid accumulation of samples that are not negative. -/
structure AW (c0 c1 c2 a own f m : Int) : Prop where
  l0 : 0 ≤ c0
  l1 : 0 ≤ c1
  l2 : 0 ≤ c2
  u0 : c0 ≤ a
  u1 : c1 ≤ a
  u2 : c2 ≤ a
  o0 : 0 ≤ own
  oa : own ≤ a
  of : own ≤ f
  am : a ≤ m
  fm : f ≤ m
theorem AW.a16 {c0 c1 c2 a own f m : Int} (h : AW c0 c1 c2 a own f m) (hm : m ≤ 65535) : A16 c0 c1 c2 a own f := by
  obtain ⟨l0, l1, l2, u0, u1, u2, o0, oa, of, am, fm⟩ := h
  exact ⟨⟨l0, by omega⟩, ⟨l1, by omega⟩, ⟨l2, by omega⟩, ⟨by omega, by omega⟩, ⟨o0, by omega⟩, ⟨by omega, by omega⟩⟩
theorem AW.av {c0 c1 c2 a own f b0 b1 b2 b m : Int} (h : AW c0 c1 c2 a own f m) (hm : m = 255 ∨ m = 65535) (d : PV b0 b1 b2 b b m) : AV c0 c1 c2 a own f b0 b1 b2 b b m := ⟨h.u0, h.u1, h.u2, hm, h.oa, h.of, h.am, h.fm, d.vp, rfl⟩
theorem gAccumW (x y z v w o : Int) {m : Int} (h0 : 0 ≤ m) (h1 : m ≤ 65535) : AW (F_gen_Accum x y z v w o m).1 (F_gen_Accum x y z v w o m).2.1 (F_gen_Accum x y z v w o m).2.2.1 (F_gen_Accum x y z v w o m).2.2.2.1 (F_gen_Accum x y z v w o m).2.2.2.2.1 (F_gen_Accum x y z v w o m).2.2.2.2.2 m := by
  have p := gPixelV x y z v w h0 h1
  rw [F_gen_Accum_eq]
  simp only
  generalize F_gen_Pixel x y z v w m = q at *
  obtain ⟨c0, c1, c2, a, f⟩ := q
  obtain ⟨l0, l1, l2, u0, u1, u2, af, fm⟩ := p
  simp only at l0 l1 l2 u0 u1 u2 af fm ⊢
  cases (F_gen_Mod o 4 == 3)
  · simp only [cond_false]
    have e : (if f < a then f else a) = a := by split <;> omega
    rw [e]
    have s := gSampleM o (show 0 ≤ a by omega) (show a ≤ 65535 by omega)
    exact ⟨l0, l1, l2, u0, u1, u2, s.1, s.2, by omega, by omega, fm⟩
  · simp only [cond_true]
    have g := gSampleM (IntKind.i64.wrap (Int.tdiv o 4)) h0 h1
    generalize F_gen_Sample (IntKind.i64.wrap (Int.tdiv o 4)) m = t at *
    have hw : ∃ w, (if t < a then t else a) = w ∧ 0 ≤ w ∧ w ≤ t ∧ w ≤ a := by split <;> exact ⟨_, rfl, by omega, by omega, by omega⟩
    obtain ⟨w, e, w0, w1, w2⟩ := hw
    rw [e]
    have s := gSampleM o w0 (show w ≤ 65535 by omega)
    exact ⟨l0, l1, l2, u0, u1, u2, s.1, by omega, by omega, by omega, g.2⟩
theorem gBackV (x y z v w : Int) {m : Int} (h0 : 0 ≤ m) (h1 : m ≤ 65535) : PV (F_gen_Back x y z v w m).1 (F_gen_Back x y z v w m).2.1 (F_gen_Back x y z v w m).2.2.1 (F_gen_Back x y z v w m).2.2.2.1 (F_gen_Back x y z v w m).2.2.2.1 m ∧ (F_gen_Back x y z v w m).2.2.2.2 = (F_gen_Back x y z v w m).2.2.2.1 := by
  have p := gPixelV x y z v w h0 h1
  rw [F_gen_Back_eq]
  simp only
  exact ⟨⟨p.l0, p.l1, p.l2, p.u0, p.u1, p.u2, Int.le_refl _, Int.le_trans p.af p.fm⟩, trivial⟩
/-- A group begins with a valid accumulation. -/
theorem beginV (i k : Bool) {c0 c1 c2 a own f b0 b1 b2 b m : Int} (h : AW c0 c1 c2 a own f m) (d : PV b0 b1 b2 b b m) : ∃ e0 e1 e2 e : Int, F_group_Begin i k c0 c1 c2 a own f b0 b1 b2 b b = (e0, e1, e2, e, 0, 0, e0, e1, e2, e, e) ∧ PV e0 e1 e2 e e m := by
  rw [F_group_Begin_eq]
  cases i
  · cases k
    · exact ⟨c0, c1, c2, a, rfl, h.l0, h.l1, h.l2, h.u0, h.u1, h.u2, Int.le_refl _, h.am⟩
    · exact ⟨b0, b1, b2, b, rfl, d⟩
  · exact ⟨0, 0, 0, 0, rfl, PV.zero (Int.le_trans (Int.le_trans h.l0 h.u0) h.am)⟩
theorem startW {e0 e1 e2 e m : Int} (h : PV e0 e1 e2 e e m) : AW e0 e1 e2 e 0 0 m := by
  obtain ⟨l0, l1, l2, u0, u1, u2, af, fm⟩ := h
  exact ⟨l0, l1, l2, u0, u1, u2, Int.le_refl 0, by omega, Int.le_refl 0, fm, by omega⟩
section
variable {kn : Bool} {k m s0 s1 s2 a f c0 c1 c2 A own F b0 b1 b2 b : Int} (hm : m = 255 ∨ m = 65535) (hk : 1 ≤ k ∧ k ≤ 12) (s : PV s0 s1 s2 a f m) (c : AW c0 c1 c2 A own F m) (d : PV b0 b1 b2 b b m)
include hm hk s c d
theorem stepV {o : Int} (ho : 1 ≤ o ∧ o ≤ 12) (h4 : kn = true → o = 4) : F_group_Step kn o k m s0 s1 s2 a f c0 c1 c2 A own F b0 b1 b2 b b = stepZ kn o k m s0 s1 s2 a f c0 c1 c2 A own F b0 b1 b2 b := by
  rw [pStep ⟨by omega, by omega⟩ (s.p16 (by omega)) (c.a16 (by omega)) (d.p16 (by omega)), if_pos ⟨ho, hk, c.av hm d, s.vp, h4⟩]
theorem resultV : F_group_Result c0 c1 c2 A own F b0 b1 b2 b b m = resZ c0 c1 c2 own F b0 b1 b2 m := by
  have := hk
  have := s.l0
  rw [pResult ⟨by omega, by omega⟩ (c.a16 (by omega)) (d.p16 (by omega)), if_pos (c.av hm d)]
/-- The next accumulation, of a src-over element. -/
theorem step_valid : AW (stepZ kn 4 k m s0 s1 s2 a f c0 c1 c2 A own F b0 b1 b2 b).1 (stepZ kn 4 k m s0 s1 s2 a f c0 c1 c2 A own F b0 b1 b2 b).2.1 (stepZ kn 4 k m s0 s1 s2 a f c0 c1 c2 A own F b0 b1 b2 b).2.2.1 (stepZ kn 4 k m s0 s1 s2 a f c0 c1 c2 A own F b0 b1 b2 b).2.2.2.1 (stepZ kn 4 k m s0 s1 s2 a f c0 c1 c2 A own F b0 b1 b2 b).2.2.2.2.1 (stepZ kn 4 k m s0 s1 s2 a f c0 c1 c2 A own F b0 b1 b2 b).2.2.2.2.2.1 m := by
  have m0 : 1 ≤ m := by omega
  have m1 : Is16 m := ⟨by omega, by omega⟩
  have sp := s.p16 (show m ≤ 65535 by omega)
  have cp := c.a16 (show m ≤ 65535 by omega)
  have dp := d.p16 (show m ≤ 65535 by omega)
  have am : a ≤ m := Int.le_trans s.af s.fm
  have sh := shapeZ_bd (o := 4) sp.f cp.f m1 m0 s.fm c.fm
  cases kn with
  | true =>
    have hd0 : 0 ≤ b0 ∧ b0 ≤ b ∧ b ≤ m := ⟨d.l0, d.u0, d.fm⟩
    have hd1 : 0 ≤ b1 ∧ b1 ≤ b ∧ b ≤ m := ⟨d.l1, d.u1, d.fm⟩
    have hd2 : 0 ≤ b2 ∧ b2 ≤ b ∧ b ≤ m := ⟨d.l2, d.u2, d.fm⟩
    have h0 := kHalf_le (k := k) (m := m) sp.c0 sp.a sp.f cp.c0 dp.c0 dp.a ⟨hk, s.u0, d.u0, hm, s.af, s.fm, d.fm, Int.le_trans c.u0 c.am⟩
    have h1 := kHalf_le (k := k) (m := m) sp.c1 sp.a sp.f cp.c1 dp.c1 dp.a ⟨hk, s.u1, d.u1, hm, s.af, s.fm, d.fm, Int.le_trans c.u1 c.am⟩
    have h2 := kHalf_le (k := k) (m := m) sp.c2 sp.a sp.f cp.c2 dp.c2 dp.a ⟨hk, s.u2, d.u2, hm, s.af, s.fm, d.fm, Int.le_trans c.u2 c.am⟩
    have m3 {x : Int} (h : x ≤ A) : kAlpha m a f x b ≤ kAlpha m a f A b := kAlpha_mono m0 s.fm s.af h (Int.le_refl b)
    have a3 := kAlpha_bd (m := m) sp.a sp.f cp.a dp.a ⟨hm, s.af, s.fm, d.fm, c.am⟩
    have a4 := kAlpha_bd (m := m) sp.a sp.f cp.own zero16 ⟨hm, s.af, s.fm, by omega, Int.le_trans c.oa c.am⟩
    have a5 : kAlpha m a f own 0 ≤ kAlpha m a f A b := kAlpha_mono m0 s.fm s.af c.oa dp.a.1
    have a6 : kAlpha m a f own 0 ≤ shapeZ 4 f F m := own_le_union m0 s.af s.fm c.of
    exact ⟨h0.1, h1.1, h2.1, Int.le_trans h0.2 (m3 c.u0), Int.le_trans h1.2 (m3 c.u1), Int.le_trans h2.2 (m3 c.u2), a4.1, a5, a6, a3.2, sh.2⟩
  | false =>
    have h0 := mixH_le m1 sp.c0 sp.a cp.c0 cp.a (o := 4) (k := k) ⟨by decide, hk, s.u0, c.u0, am, c.am, hm⟩
    have h1 := mixH_le m1 sp.c1 sp.a cp.c1 cp.a (o := 4) (k := k) ⟨by decide, hk, s.u1, c.u1, am, c.am, hm⟩
    have h2 := mixH_le m1 sp.c2 sp.a cp.c2 cp.a (o := 4) (k := k) ⟨by decide, hk, s.u2, c.u2, am, c.am, hm⟩
    have om : own ≤ m := Int.le_trans c.oa c.am
    have h3 := pAlpha (o := 4) sp.a cp.a m1 m0 ⟨by decide, am, c.am⟩
    have h4 := pAlpha (o := 4) sp.a cp.own m1 m0 ⟨by decide, am, om⟩
    have h5 : alphaZ 4 a own m ≤ alphaZ 4 a A m := alpha_mono4 m0 am c.oa
    have h6 := alpha_le_shape (o := 4) m0 sp.a.1 s.af s.fm c.o0 c.of c.fm (by decide)
    exact ⟨h0.1, h1.1, h2.1, h0.2, h1.2, h2.2, h4.2.1, h5, h6, h3.2.2, sh.2⟩
theorem result_valid : PV (remZ c0 b0 own m) (remZ c1 b1 own m) (remZ c2 b2 own m) own F m := by
  have m0 : 1 ≤ m := by omega
  have m1 : Is16 m := ⟨by omega, by omega⟩
  have cp := c.a16 (show m ≤ 65535 by omega)
  have dp := d.p16 (show m ≤ 65535 by omega)
  have := hk
  have := s.l0
  have om : own ≤ m := Int.le_trans c.oa c.am
  have h0 := remZ_nn m0 m1 cp.c0 (Int.le_trans c.u0 c.am) dp.c0 cp.own om
  have h1 := remZ_nn m0 m1 cp.c1 (Int.le_trans c.u1 c.am) dp.c1 cp.own om
  have h2 := remZ_nn m0 m1 cp.c2 (Int.le_trans c.u2 c.am) dp.c2 cp.own om
  exact ⟨h0, h1, h2, remZ_bd cp.own h0, remZ_bd cp.own h1, remZ_bd cp.own h2, c.of, c.fm⟩
end
theorem pv0 {m : Int} (h : 0 ≤ m) : PV 0 0 0 0 0 m := PV.zero h
/-- What one normal element makes of the untouched backdrop. -/
theorem one_step {kn : Bool} {m s0 s1 s2 a f e0 e1 e2 e : Int} (hm : m = 255 ∨ m = 65535) (s : PV s0 s1 s2 a f m) (d : PV e0 e1 e2 e e m) : stepZ kn 4 1 m s0 s1 s2 a f e0 e1 e2 e 0 0 e0 e1 e2 e = (ov s0 a e0 m, ov s1 a e1 m, ov s2 a e2 m, ov a a e m, a, f, true) := by
  have m0 : 1 ≤ m := by omega
  have sp := s.p16 (show m ≤ 65535 by omega)
  have dp := d.p16 (show m ≤ 65535 by omega)
  have x1 : alphaZ 4 a 0 m = a := fresh_a m0 (by decide)
  have x2 : shapeZ 4 f 0 m = f := fresh_f m0 (by decide)
  cases kn with
  | true =>
    have ca (x : Int) (h1 : Is16 x) (h2 : x ≤ a) : CA x a := ⟨h1.1, h2, sp.a.2⟩
    have cd (x : Int) (h1 : Is16 x) (h2 : x ≤ e) : CA x e := ⟨h1.1, h2, dp.a.2⟩
    have y1 : kAlpha m a f e e = ov a a e m := by
      rw [← over_a m0]
      unfold kAlpha
      rw [show (m - f) * e + (f - a) * e + m * a = m * a + (m - a) * e by grind]
      rfl
    have y2 : kAlpha m a f 0 0 = a := by
      unfold kAlpha
      rw [show (m - f) * 0 + (f - a) * 0 + m * a = a * m by grind, hv_exact m0]
    unfold stepZ
    rw [if_pos rfl, kFirst (by decide) m0 (ca s0 sp.c0 s.u0) (cd e0 dp.c0 d.u0), kFirst (by decide) m0 (ca s1 sp.c1 s.u1) (cd e1 dp.c1 d.u1), kFirst (by decide) m0 (ca s2 sp.c2 s.u2) (cd e2 dp.c2 d.u2), over_c m0, over_c m0, over_c m0, y1, y2, x2]
  | false =>
    unfold stepZ
    rw [if_neg (by decide), over_c m0, over_c m0, over_c m0, over_a m0, x1, x2]
theorem rem_one {m a s d : Int} (hm : m = 255 ∨ m = 65535) (s0 : 0 ≤ s) (sa : s ≤ a) : remZ (ov s a d m) d a m = s := by
  have h := remove_one (a := a) (d := d) hm s0
  unfold remZ ov
  split
  · rename_i k
    exact (h.1 k).symm
  · rename_i k
    rw [h.2 (by omega)]
    split <;> omega
theorem awake12 : F_law12_awake = true := by
  have s : PV 5 6 7 255 255 255 := ⟨by decide, by decide, by decide, by decide, by decide, by decide, by decide, by decide⟩
  have e : PV 90 0 0 100 100 255 := ⟨by decide, by decide, by decide, by decide, by decide, by decide, by decide, by decide⟩
  have hb : F_group_Begin false false 90 0 0 100 100 200 0 0 0 0 0 = (90, 0, 0, 100, 0, 0, 90, 0, 0, 100, 100) := by
    rw [F_group_Begin_eq]
    rfl
  have hv := step_valid (kn := false) (m := 255) (k := 1) (.inl rfl) (by decide) s (startW e) e
  rw [F_law12_awake_eq, hb]
  simp only
  rw [stepV (.inl rfl) (by decide) s (startW e) e (by decide) (fun h => by cases h)]
  rw [one_step (.inl rfl) s e] at hv ⊢
  simp only at hv ⊢
  rw [resultV (.inl rfl) (k := 1) (by decide) s hv e]
  unfold resZ
  rw [rem_one (.inl rfl) (by decide) (by decide), rem_one (.inl rfl) (by decide) (by decide), rem_one (.inl rfl) (by decide) (by decide)]
  decide
theorem b16 {c0 c1 c2 b m : Int} {g : Int} (h : PV c0 c1 c2 b b m) (hg : g = b) (hm : m ≤ 65535) : P16 c0 c1 c2 b g := by subst hg; exact h.p16 hm
theorem steps {kn : Bool} {o k m s0 s1 s2 a f c0 c1 c2 A own F b0 b1 b2 b g : Int} (m1 : Is16 m) (s : P16 s0 s1 s2 a f) (c : A16 c0 c1 c2 A own F) (d : P16 b0 b1 b2 b g) : F_group_Step kn o k m s0 s1 s2 a f c0 c1 c2 A own F b0 b1 b2 b g = F_ref06_Step kn o k m s0 s1 s2 a f c0 c1 c2 A own F b0 b1 b2 b g := by
  rw [pStep m1 s c d, rStep m1 s c d]
theorem results {m c0 c1 c2 A own F b0 b1 b2 b g : Int} (m1 : Is16 m) (c : A16 c0 c1 c2 A own F) (d : P16 b0 b1 b2 b g) : F_group_Result c0 c1 c2 A own F b0 b1 b2 b g m = F_ref06_Result c0 c1 c2 A own F b0 b1 b2 b g m := by
  rw [pResult m1 c d, rResult m1 c d]
theorem groupBeginAgrees (i k : Bool) (p2 p3 p4 p5 p6 p7 p8 p9 p10 p11 p12 p13 p14 p15 p16 p17 p18 p19 p20 p21 p22 p23 p24 p25 : Int) : F_law12_GroupBeginAgrees i k p2 p3 p4 p5 p6 p7 p8 p9 p10 p11 p12 p13 p14 p15 p16 p17 p18 p19 p20 p21 p22 p23 p24 p25 = true := by
  have hm := mMax p13
  have ha := gAccumW p2 p3 p4 p5 p6 p12 hm.2.1 hm.2.2
  have hb := gBackV p7 p8 p9 p10 p11 hm.2.1 hm.2.2
  rw [F_law12_GroupBeginAgrees_eq]
  simp only [awake12, ← begins, pAcc, rAcc, beq_self_eq_true, cond_true, Bool.and_self]
  generalize F_gen_Max p13 = m at *
  generalize F_gen_Accum p2 p3 p4 p5 p6 p12 m = x at *
  generalize F_gen_Back p7 p8 p9 p10 p11 m = y at *
  obtain ⟨c0, c1, c2, a, own, f⟩ := x
  obtain ⟨b0, b1, b2, b, g⟩ := y
  simp only at ha hb ⊢
  obtain ⟨hb, hg⟩ := hb
  subst hg
  obtain ⟨e0, e1, e2, e, he, hv⟩ := beginV i k ha hb
  rw [he]
  simp only
  rw [decide_eq_true (ha.av hm.1 hb), decide_eq_true ((startW hv).av hm.1 hv)]
  rfl
theorem groupStepAgrees (kn : Bool) (p1 p2 p3 p4 p5 p6 p7 p8 p9 p10 p11 p12 p13 p14 p15 p16 p17 p18 p19 : Int) : F_law12_GroupStepAgrees kn p1 p2 p3 p4 p5 p6 p7 p8 p9 p10 p11 p12 p13 p14 p15 p16 p17 p18 p19 = true := by
  have hm := mMax p19
  have hs := (gPixelV p3 p4 p5 p6 p7 hm.2.1 hm.2.2).p16 hm.2.2
  have ha := (gAccumW p8 p9 p10 p11 p12 p18 hm.2.1 hm.2.2).a16 hm.2.2
  have hb := gBackV p13 p14 p15 p16 p17 hm.2.1 hm.2.2
  have hb := b16 hb.1 hb.2 hm.2.2
  rw [F_law12_GroupStepAgrees_eq]
  simp only [awake12, steps (m := F_gen_Max p19) hm.2 hs ha hb, beq_self_eq_true, cond_true, Bool.and_self]
  cases (F_gen_Mod (IntKind.i64.wrap (Int.tdiv p1 14)) 2 == 0) <;> rfl
theorem groupRejects (kn : Bool) (p1 p2 : Int) {p3 p4 p5 p6 p7 p8 p9 p10 p11 p12 p13 p14 p15 p16 p17 p18 p19 : Int} (s : P16 p3 p4 p5 p6 p7) (c : A16 p8 p9 p10 p11 p12 p13) (d : P16 p14 p15 p16 p17 p18) (h : Is16 p19) (p20 p21 p22 p23 p24 p25 : Int) :
    F_law12_GroupRejects kn p1 p2 p3 p4 p5 p6 p7 p8 p9 p10 p11 p12 p13 p14 p15 p16 p17 p18 p19 p20 p21 p22 p23 p24 p25 = true := by
  have hm := mMax p19
  have ha := (gAccumW p20 p21 p22 p23 p24 p25 hm.2.1 hm.2.2).a16 hm.2.2
  rw [F_law12_GroupRejects_eq]
  simp only [awake12, steps h s c d, results h c d, steps (m := F_gen_Max p19) hm.2 s ha d, beq_self_eq_true, cond_true, Bool.and_self]
theorem groupResultAgrees (p0 p1 p2 p3 p4 p5 p6 p7 p8 p9 p10 p11 : Int) : F_law12_GroupResultAgrees p0 p1 p2 p3 p4 p5 p6 p7 p8 p9 p10 p11 = true := by
  have hm := mMax p11
  have ha := gAccumW p0 p1 p2 p3 p4 p10 hm.2.1 hm.2.2
  have hb := gBackV p5 p6 p7 p8 p9 hm.2.1 hm.2.2
  rw [F_law12_GroupResultAgrees_eq]
  simp only [awake12]
  generalize F_gen_Max p11 = m at *
  generalize F_gen_Accum p0 p1 p2 p3 p4 p10 m = x at *
  generalize F_gen_Back p5 p6 p7 p8 p9 m = y at *
  obtain ⟨c0, c1, c2, a, own, f⟩ := x
  obtain ⟨b0, b1, b2, b, g⟩ := y
  simp only at ha hb ⊢
  obtain ⟨hb, hg⟩ := hb
  subst hg
  have z : PV 0 0 0 0 0 m := PV.zero hm.2.1
  have hr := resultV hm.1 (k := 1) (by decide) z ha hb
  have hv := result_valid hm.1 (k := 1) (by decide) z ha hb
  rw [← results hm.2 (ha.a16 hm.2.2) (hb.p16 hm.2.2), hr]
  simp only [resZ, rValidP, decide_eq_true hv.vp, beq_self_eq_true, cond_true, Bool.and_self]
theorem groupEmptyIsTransparent (i k : Bool) (p2 p3 p4 p5 p6 p7 p8 p9 p10 p11 p12 p13 : Int) : F_law12_GroupEmptyIsTransparent i k p2 p3 p4 p5 p6 p7 p8 p9 p10 p11 p12 p13 = true := by
  have hm := mMax p13
  have ha := gAccumW p2 p3 p4 p5 p6 p12 hm.2.1 hm.2.2
  have hb := gBackV p7 p8 p9 p10 p11 hm.2.1 hm.2.2
  rw [F_law12_GroupEmptyIsTransparent_eq]
  simp only [awake12]
  generalize F_gen_Max p13 = m at *
  generalize F_gen_Accum p2 p3 p4 p5 p6 p12 m = x at *
  generalize F_gen_Back p7 p8 p9 p10 p11 m = y at *
  obtain ⟨c0, c1, c2, a, own, f⟩ := x
  obtain ⟨b0, b1, b2, b, g⟩ := y
  simp only at ha hb ⊢
  obtain ⟨hb, hg⟩ := hb
  subst hg
  obtain ⟨e0, e1, e2, e, he, hv⟩ := beginV i k ha hb
  rw [he]
  simp only
  have z : PV 0 0 0 0 0 m := PV.zero hm.2.1
  have hz (x : Int) : remZ x x 0 m = 0 := by
    unfold remZ
    rw [if_pos (by rw [Int.sub_zero]; exact Int.le_refl _)]
  rw [resultV hm.1 (k := 1) (by decide) z (startW hv) hv]
  simp only [resZ, hz]
  rfl
theorem groupOfOneNormalElement (i k kn : Bool) (p3 p4 p5 p6 p7 p8 p9 p10 p11 p12 p13 p14 p15 p16 p17 p18 p19 : Int) : F_law12_GroupOfOneNormalElement i k kn p3 p4 p5 p6 p7 p8 p9 p10 p11 p12 p13 p14 p15 p16 p17 p18 p19 = true := by
  have hm := mMax p19
  have hs := gPixelV p3 p4 p5 p6 p7 hm.2.1 hm.2.2
  have ha := gAccumW p8 p9 p10 p11 p12 p18 hm.2.1 hm.2.2
  have hb := gBackV p13 p14 p15 p16 p17 hm.2.1 hm.2.2
  rw [F_law12_GroupOfOneNormalElement_eq]
  simp only [awake12]
  generalize F_gen_Max p19 = m at *
  generalize F_gen_Pixel p3 p4 p5 p6 p7 m = w at *
  generalize F_gen_Accum p8 p9 p10 p11 p12 p18 m = x at *
  generalize F_gen_Back p13 p14 p15 p16 p17 m = y at *
  obtain ⟨s0, s1, s2, sa, sf⟩ := w
  obtain ⟨c0, c1, c2, a, own, f⟩ := x
  obtain ⟨b0, b1, b2, b, g⟩ := y
  simp only at hs ha hb ⊢
  obtain ⟨hb, hg⟩ := hb
  subst hg
  obtain ⟨e0, e1, e2, e, he, hv⟩ := beginV i k ha hb
  rw [he]
  simp only
  have hn := step_valid (kn := kn) hm.1 (k := 1) (by decide) hs (startW hv) hv
  rw [stepV hm.1 (by decide) hs (startW hv) hv (by decide) (fun _ => rfl)]
  rw [one_step hm.1 hs hv] at hn ⊢
  simp only at hn ⊢
  rw [resultV hm.1 (k := 1) (by decide) hs hn hv]
  simp only [resZ, rem_one hm.1 hs.l0 hs.u0, rem_one hm.1 hs.l1 hs.u1, rem_one hm.1 hs.l2 hs.u2, beq_self_eq_true, cond_true, Bool.and_self]

/-! GroupValidNeedsEachField -/
theorem groupValidNeedsEachField (p0 p1 p2 p3 p4 p5 p6 p7 p8 p9 p10 p11 p12 : Int) : F_law12_GroupValidNeedsEachField p0 p1 p2 p3 p4 p5 p6 p7 p8 p9 p10 p11 p12 = true := by
  have hm := mMax p11
  have ha := gAccumW p0 p1 p2 p3 p4 p10 hm.2.1 hm.2.2
  have hb := gBackV p5 p6 p7 p8 p9 hm.2.1 hm.2.2
  have e0 := gMod (x := IntKind.i64.wrap (Int.tdiv p12 6)) (n := 3) (by decide) (by decide)
  have h3 : IntKind.i64.wrap (Int.tdiv p12 6) % 3 = 0 ∨ IntKind.i64.wrap (Int.tdiv p12 6) % 3 = 1 ∨ IntKind.i64.wrap (Int.tdiv p12 6) % 3 = 2 := by omega
  rw [F_law12_GroupValidNeedsEachField_eq]
  simp only [awake12, pAcc, e0]
  generalize F_gen_Max p11 = m at *
  generalize F_gen_Accum p0 p1 p2 p3 p4 p10 m = x at *
  generalize F_gen_Back p5 p6 p7 p8 p9 m = y at *
  obtain ⟨c0, c1, c2, a, own, f⟩ := x
  obtain ⟨b0, b1, b2, b, g⟩ := y
  simp only at ha hb ⊢
  obtain ⟨hb, hg⟩ := hb
  subst hg
  obtain ⟨l0, l1, l2, u0, u1, u2, o0, oa, of, am, fm⟩ := ha
  obtain ⟨q0, q1, q2, v0, v1, v2, -, bm⟩ := hb
  have hw : ∃ w, (if IntKind.u16.wrap (m - 1) < a then IntKind.u16.wrap (m - 1) else a) = w ∧ 0 ≤ w ∧ w ≤ 65534 := by
    rw [u16_in (x := m - 1) (by omega) (by omega)]
    split <;> exact ⟨_, rfl, by omega, by omega⟩
  obtain ⟨w, ew, w0, w1⟩ := hw
  rw [ew, u16_in (x := w + 1) (by omega) (by omega)]
  have n2 : ¬ AV 0 0 0 w (w + 1) m b0 b1 b2 g g m := by unfold AV; omega
  have n3 : ¬ AV c0 c1 c2 m 1 0 b0 b1 b2 g g m := by unfold AV; omega
  have n4 : ¬ AV c0 c1 c2 a own f b0 b1 b2 g g 254 := by unfold AV; omega
  have n5 : ¬ AV c0 c1 c2 a own f 1 b1 b2 0 0 m := by unfold AV VP; omega
  have n6 (x y z : Int) : ¬ AV x y z a 1 0 b0 b1 b2 g g m := by unfold AV; omega
  rw [decide_eq_false n2, decide_eq_false n3, decide_eq_false n4, decide_eq_false n5, decide_eq_false (n6 _ _ _), decide_eq_false (n6 _ _ _), decide_eq_false (n6 _ _ _)]
  have k0 : a ≠ 65535 → ¬ AV (IntKind.u16.wrap (a + 1)) c1 c2 a own f b0 b1 b2 g g m ∧ ¬ AV c0 (IntKind.u16.wrap (a + 1)) c2 a own f b0 b1 b2 g g m ∧ ¬ AV c0 c1 (IntKind.u16.wrap (a + 1)) a own f b0 b1 b2 g g m := by
    intro h
    rw [u16_in (x := a + 1) (by omega) (by omega)]
    refine ⟨?_, ?_, ?_⟩ <;> (unfold AV; omega)
  have k1 : g = 65535 → ¬ AV c0 c1 c2 a own f b0 b1 b2 g 0 m := by
    intro h
    unfold AV
    omega
  have k2 : g ≠ 65535 → ¬ AV c0 c1 c2 a own f b0 b1 b2 g (IntKind.u16.wrap (g + 1)) m ∧ ¬ AV c0 c1 c2 a own f (IntKind.u16.wrap (g + 1)) b1 b2 g g m := by
    intro h
    rw [u16_in (x := g + 1) (by omega) (by omega)]
    refine ⟨?_, ?_⟩ <;> (unfold AV VP; omega)
  generalize (F_gen_Mod p12 6 == 0) = d0
  generalize (F_gen_Mod p12 6 == 1) = d1
  generalize (F_gen_Mod p12 6 == 2) = d2
  generalize (F_gen_Mod p12 6 == 3) = d3
  generalize (F_gen_Mod p12 6 == 4) = d4
  by_cases g1 : g = 65535
  · have eg : (g == 65535) = true := by simp [g1]
    rw [decide_eq_false (k1 g1), eg]
    by_cases a1 : a = 65535
    · have ea : (a == 65535) = true := by simp [a1]
      rw [ea]
      rcases h3 with h | h | h <;> rw [h] <;> cases d0 <;> cases d1 <;> cases d2 <;> cases d3 <;> cases d4 <;> rfl
    · have ea : (a == 65535) = false := by simp [a1]
      have k := k0 a1
      rw [ea, decide_eq_false k.1, decide_eq_false k.2.1, decide_eq_false k.2.2]
      rcases h3 with h | h | h <;> rw [h] <;> cases d0 <;> cases d1 <;> cases d2 <;> cases d3 <;> cases d4 <;> rfl
  · have eg : (g == 65535) = false := by simp [g1]
    have kk := k2 g1
    rw [eg, decide_eq_false kk.1, decide_eq_false kk.2]
    by_cases a1 : a = 65535
    · have ea : (a == 65535) = true := by simp [a1]
      rw [ea]
      rcases h3 with h | h | h <;> rw [h] <;> cases d0 <;> cases d1 <;> cases d2 <;> cases d3 <;> cases d4 <;> rfl
    · have ea : (a == 65535) = false := by simp [a1]
      have k := k0 a1
      rw [ea, decide_eq_false k.1, decide_eq_false k.2.1, decide_eq_false k.2.2]
      rcases h3 with h | h | h <;> rw [h] <;> cases d0 <;> cases d1 <;> cases d2 <;> cases d3 <;> cases d4 <;> rfl
end Go.Proofs.YtjgmipklbpghfaaDoor
