/- The statements of chapter 12 over slices, as plain laws. -/
import Derived.Test.YtjgmipklbpghfaaDoorLaw12
import Derived.Test.YtjgmipklbpghfaaDoorSm12m
namespace Go.Proofs.YtjgmipklbpghfaaDoor
set_option maxRecDepth 100000
open Go.RowKit

/-- A step's result: a valid accumulation, and true. -/
def RunOK (m : Int) (r : Int × Int × Int × Int × Int × Int × Bool) : Prop := AW r.1 r.2.1 r.2.2.1 r.2.2.2.1 r.2.2.2.2.1 r.2.2.2.2.2.1 m ∧ r.2.2.2.2.2.2 = true
section
variable {kn : Bool} {m c0 c1 c2 A own F b0 b1 b2 b : Int} (hm : m = 255 ∨ m = 65535)
include hm
theorem stepR (c : AW c0 c1 c2 A own F m) (d : PV b0 b1 b2 b b m) (x y0 y1 y2 y3 y4 : Int) :
    RunOK m (F_group_Step kn 4 (IntKind.i64.wrap (1 + F_gen_Mod x 12)) m (F_gen_Pixel y0 y1 y2 y3 y4 m).1 (F_gen_Pixel y0 y1 y2 y3 y4 m).2.1 (F_gen_Pixel y0 y1 y2 y3 y4 m).2.2.1 (F_gen_Pixel y0 y1 y2 y3 y4 m).2.2.2.1 (F_gen_Pixel y0 y1 y2 y3 y4 m).2.2.2.2 c0 c1 c2 A own F b0 b1 b2 b b) := by
  have s := gPixelV y0 y1 y2 y3 y4 (m := m) (by omega) (by omega)
  have hk := mode12 x
  generalize F_gen_Pixel y0 y1 y2 y3 y4 m = q at *
  generalize IntKind.i64.wrap (1 + F_gen_Mod x 12) = k at *
  rw [stepV hm hk s c d (by decide) (fun _ => rfl)]
  refine ⟨step_valid hm hk s c d, ?_⟩
  cases kn <;> rfl
theorem validR {r : Int × Int × Int × Int × Int × Int × Bool} (h : RunOK m r) (d : PV b0 b1 b2 b b m) : F_group_Valid r.1 r.2.1 r.2.2.1 r.2.2.2.1 r.2.2.2.2.1 r.2.2.2.2.2.1 b0 b1 b2 b b m = true := by
  rw [pAcc, decide_eq_true (h.1.av hm d)]
theorem run_valid {mem : Cells} {l o : Value} (hl : sliceB mem K5 l = true) (ho : sliceB mem K1 o = true) (c : AW c0 c1 c2 A own F m) (d : PV b0 b1 b2 b b m) : RunOK m (F_law12_run mem kn m l o c0 c1 c2 A own F b0 b1 b2 b b) := by
  rw [F_law12_run_eq]
  extract_lets -merge x0 x1 x2 x3 x4 x5 x6 x7 x8 x9 x10 x11 x12 x13 x14 x15 x16 x17 x18 x19 x20 x21 x22 x23 x24 x25 x26 x27 x28 x29 x30 x31 x32 x33 x34 x35 x36 x37 x38 x39 x40 x41 x42 x43 x44 x45 x46 x47 x48 x49 x50 x51 x52 x53 x54 x55 x56 x57 x58 x59 x60 x61
  have e0 : x0 = true := slice_isSl hl
  simp only [e0, cond_true]
  by_cases h0 : 0 < x1
  case neg =>
    simp only [decide_eq_false h0, cond_false]
    exact ⟨c, rfl⟩
  have g0 := slice_ix hl (show (0 : Int) ≤ 0 by decide) h0
  have e2 : x2 = true := pre_at ho 0
  have e3 : x3 = true := g0.1
  have e5 : x5 = true := g0.2
  have r0 : RunOK m x10 := stepR hm c d x6 _ _ _ _ _
  have v0 : x11 = true := validR hm r0 d
  simp only [decide_eq_true h0, e2, e3, e5, r0.2, v0, Bool.not_true, cond_true, cond_false]
  by_cases h1 : 1 < x1
  case neg =>
    simp only [decide_eq_false h1, cond_false]
    exact ⟨r0.1, rfl⟩
  have g1 := slice_ix hl (show (0 : Int) ≤ 1 by decide) h1
  have e12 : x12 = true := pre_at ho 1
  have e13 : x13 = true := g1.1
  have e15 : x15 = true := g1.2
  have r1 : RunOK m x20 := stepR hm r0.1 d x16 _ _ _ _ _
  have v1 : x21 = true := validR hm r1 d
  simp only [decide_eq_true h1, e12, e13, e15, r1.2, v1, Bool.not_true, cond_true, cond_false]
  by_cases h2 : 2 < x1
  case neg =>
    simp only [decide_eq_false h2, cond_false]
    exact ⟨r1.1, rfl⟩
  have g2 := slice_ix hl (show (0 : Int) ≤ 2 by decide) h2
  have e22 : x22 = true := pre_at ho 2
  have e23 : x23 = true := g2.1
  have e25 : x25 = true := g2.2
  have r2 : RunOK m x30 := stepR hm r1.1 d x26 _ _ _ _ _
  have v2 : x31 = true := validR hm r2 d
  simp only [decide_eq_true h2, e22, e23, e25, r2.2, v2, Bool.not_true, cond_true, cond_false]
  by_cases h3 : 3 < x1
  case neg =>
    simp only [decide_eq_false h3, cond_false]
    exact ⟨r2.1, rfl⟩
  have g3 := slice_ix hl (show (0 : Int) ≤ 3 by decide) h3
  have e32 : x32 = true := pre_at ho 3
  have e33 : x33 = true := g3.1
  have e35 : x35 = true := g3.2
  have r3 : RunOK m x40 := stepR hm r2.1 d x36 _ _ _ _ _
  have v3 : x41 = true := validR hm r3 d
  simp only [decide_eq_true h3, e32, e33, e35, r3.2, v3, Bool.not_true, cond_true, cond_false]
  by_cases h4 : 4 < x1
  case neg =>
    simp only [decide_eq_false h4, cond_false]
    exact ⟨r3.1, rfl⟩
  have g4 := slice_ix hl (show (0 : Int) ≤ 4 by decide) h4
  have e42 : x42 = true := pre_at ho 4
  have e43 : x43 = true := g4.1
  have e45 : x45 = true := g4.2
  have r4 : RunOK m x50 := stepR hm r3.1 d x46 _ _ _ _ _
  have v4 : x51 = true := validR hm r4 d
  simp only [decide_eq_true h4, e42, e43, e45, r4.2, v4, Bool.not_true, cond_true, cond_false]
  by_cases h5 : 5 < x1
  case neg =>
    simp only [decide_eq_false h5, cond_false]
    exact ⟨r4.1, rfl⟩
  have g5 := slice_ix hl (show (0 : Int) ≤ 5 by decide) h5
  have e52 : x52 = true := pre_at ho 5
  have e53 : x53 = true := g5.1
  have e55 : x55 = true := g5.2
  have r5 : RunOK m x60 := stepR hm r4.1 d x56 _ _ _ _ _
  have v5 : x61 = true := validR hm r5 d
  simp only [decide_eq_true h5, e52, e53, e55, r5.2, v5, Bool.not_true, cond_true, cond_false]
  by_cases h6 : 6 < x1
  · simp only [decide_eq_true h6, cond_true]
    exact ⟨r5.1, rfl⟩
  · simp only [decide_eq_false h6, cond_false]
    exact ⟨r5.1, rfl⟩
end
theorem groupStaysValid {mem : Cells} (i k kn : Bool) {l o : Value} (hl : sliceB mem K5 l = true) (ho : sliceB mem K1 o = true) (p5 p6 p7 p8 p9 p10 p11 p12 p13 p14 p15 p16 : Int) : F_law12_GroupStaysValid mem i k kn l o p5 p6 p7 p8 p9 p10 p11 p12 p13 p14 p15 p16 = true := by
  have hm := mMax p16
  have ha := gAccumW p5 p6 p7 p8 p9 p15 hm.2.1 hm.2.2
  have hb := gBackV p10 p11 p12 p13 p14 hm.2.1 hm.2.2
  have hp : (sliceB mem K5 l && sliceB mem K1 o) = true := (Bool.and_eq_true _ _).mpr ⟨hl, ho⟩
  rw [F_law12_GroupStaysValid_eq]
  unfold F_pre_law12_run
  simp only [awake12, hp, cond_true]
  generalize F_gen_Max p16 = m at *
  generalize F_gen_Accum p5 p6 p7 p8 p9 p15 m = x at *
  generalize F_gen_Back p10 p11 p12 p13 p14 m = y at *
  obtain ⟨c0, c1, c2, a, own, f⟩ := x
  obtain ⟨b0, b1, b2, b, g⟩ := y
  simp only at ha hb ⊢
  obtain ⟨hb, hg⟩ := hb
  subst hg
  obtain ⟨e0, e1, e2, e, he, hv⟩ := beginV i k ha hb
  rw [he]
  simp only
  have r := run_valid (kn := kn) hm.1 hl ho (startW hv) hv
  generalize F_law12_run mem kn m l o e0 e1 e2 e 0 0 e0 e1 e2 e e = z at *
  obtain ⟨c0, c1, c2, a, own, f, t⟩ := z
  obtain ⟨r, rt⟩ := r
  simp only at r rt ⊢
  have z : PV 0 0 0 0 0 m := PV.zero hm.2.1
  rw [rt, resultV hm.1 (k := 1) (by decide) z r hv]
  have w := result_valid hm.1 (k := 1) (by decide) z r hv
  simp only [resZ, cond_true, rValidP, decide_eq_true w.vp]

/-! An isolated group and the plain composite. -/
theorem begin0 : F_group_Begin true false 0 0 0 0 0 0 0 0 0 0 0 = (0, 0, 0, 0, 0, 0, 0, 0, 0, 0, 0) := by
  rw [F_group_Begin_eq]
  rfl
/-- Both accumulations are one. -/
structure Iso (m : Int) (r : Int × Int × Int × Int × Int × Int × Bool) (q : Int × Int × Int × Int × Int × Bool) : Prop where
  v : PV q.1 q.2.1 q.2.2.1 q.2.2.2.1 q.2.2.2.2.1 m
  e : r = (q.1, q.2.1, q.2.2.1, q.2.2.2.1, q.2.2.2.1, q.2.2.2.2.1, true)
  t : q.2.2.2.2.2 = true
theorem remZ0 {c A m : Int} (hm : 1 ≤ m) (h0 : 0 ≤ c) (h1 : c ≤ A) : remZ c 0 A m = c := by
  unfold remZ
  rw [Int.mul_zero, Int.sub_zero, Int.mul_comm m c, hv_exact hm]
  split
  · rename_i h
    rcases Int.lt_or_eq_of_le h0 with h2 | h2
    · have := Int.mul_pos h2 (show 0 < m by omega)
      omega
    · exact h2
  · rw [if_neg (by omega)]
theorem isoW {m : Int} {r : Int × Int × Int × Int × Int × Int × Bool} {q : Int × Int × Int × Int × Int × Bool} (h : Iso m r q) : AW q.1 q.2.1 q.2.2.1 q.2.2.2.1 q.2.2.2.1 q.2.2.2.2.1 m := by
  have v := h.v
  exact ⟨v.l0, v.l1, v.l2, v.u0, v.u1, v.u2, Int.le_trans v.l0 v.u0, Int.le_refl _, v.af, Int.le_trans v.af v.fm, v.fm⟩
section
variable {m : Int} (hm : m = 255 ∨ m = 65535) {r : Int × Int × Int × Int × Int × Int × Bool} {q : Int × Int × Int × Int × Int × Bool} {z : Int × Int × Int × Int × Int × Int × Int × Int × Int × Int × Int} (hz : z = (0, 0, 0, 0, 0, 0, 0, 0, 0, 0, 0)) (h : Iso m r q)
include hm hz h
theorem stepI (x x' y0 y1 y2 y3 y4 : Int) :
    Iso m (F_group_Step false (IntKind.i64.wrap (1 + F_gen_Mod x 12)) (IntKind.i64.wrap (1 + F_gen_Mod x' 12)) m (F_gen_Pixel y0 y1 y2 y3 y4 m).1 (F_gen_Pixel y0 y1 y2 y3 y4 m).2.1 (F_gen_Pixel y0 y1 y2 y3 y4 m).2.2.1 (F_gen_Pixel y0 y1 y2 y3 y4 m).2.2.2.1 (F_gen_Pixel y0 y1 y2 y3 y4 m).2.2.2.2 r.1 r.2.1 r.2.2.1 r.2.2.2.1 r.2.2.2.2.1 r.2.2.2.2.2.1 z.2.2.2.2.2.2.1 z.2.2.2.2.2.2.2.1 z.2.2.2.2.2.2.2.2.1 z.2.2.2.2.2.2.2.2.2.1 z.2.2.2.2.2.2.2.2.2.2)
      (F_pixel_Composite (IntKind.i64.wrap (1 + F_gen_Mod x 12)) (IntKind.i64.wrap (1 + F_gen_Mod x' 12)) m (F_gen_Pixel y0 y1 y2 y3 y4 m).1 (F_gen_Pixel y0 y1 y2 y3 y4 m).2.1 (F_gen_Pixel y0 y1 y2 y3 y4 m).2.2.1 (F_gen_Pixel y0 y1 y2 y3 y4 m).2.2.2.1 (F_gen_Pixel y0 y1 y2 y3 y4 m).2.2.2.2 q.1 q.2.1 q.2.2.1 q.2.2.2.1 q.2.2.2.2.1) := by
  have s := gPixelV y0 y1 y2 y3 y4 (m := m) (by omega) (by omega)
  have ho := mode12 x
  have hk := mode12 x'
  have w := isoW h
  have d : PV 0 0 0 0 0 m := PV.zero (by omega)
  generalize F_gen_Pixel y0 y1 y2 y3 y4 m = p at *
  generalize IntKind.i64.wrap (1 + F_gen_Mod x 12) = o at *
  generalize IntKind.i64.wrap (1 + F_gen_Mod x' 12) = k at *
  rw [h.e, hz]
  simp only
  rw [stepV hm hk s w d ho (fun h => by cases h), compV hm ho hk s h.v]
  exact ⟨comp_valid hm ho hk s h.v, rfl, rfl⟩
theorem endI : F_group_Result r.1 r.2.1 r.2.2.1 r.2.2.2.1 r.2.2.2.2.1 r.2.2.2.2.2.1 z.2.2.2.2.2.2.1 z.2.2.2.2.2.2.2.1 z.2.2.2.2.2.2.2.2.1 z.2.2.2.2.2.2.2.2.2.1 z.2.2.2.2.2.2.2.2.2.2 m = (q.1, q.2.1, q.2.2.1, q.2.2.2.1, q.2.2.2.2.1, true) := by
  have w := isoW h
  have d : PV 0 0 0 0 0 m := PV.zero (by omega)
  rw [h.e, hz]
  simp only
  rw [resultV hm (k := 1) (by decide) d w d, resZ, remZ0 (by omega) h.v.l0 h.v.u0, remZ0 (by omega) h.v.l1 h.v.u1, remZ0 (by omega) h.v.l2 h.v.u2]
theorem iso_t : r.2.2.2.2.2.2 = true ∧ (r.2.2.2.2.1 != r.2.2.2.1) = false ∧ q.2.2.2.2.2 = true := by
  have := hm
  have := hz
  refine ⟨by rw [h.e], by rw [h.e]; exact bne_self_eq_false _, h.t⟩
end
theorem iso0 {m : Int} (hm : m = 255 ∨ m = 65535) {z : Int × Int × Int × Int × Int × Int × Int × Int × Int × Int × Int} (hz : z = (0, 0, 0, 0, 0, 0, 0, 0, 0, 0, 0)) : Iso m (z.1, z.2.1, z.2.2.1, z.2.2.2.1, z.2.2.2.2.1, z.2.2.2.2.2.1, true) (0, 0, 0, 0, 0, true) := by
  subst hz
  exact ⟨PV.zero (by omega), rfl, rfl⟩
theorem groupIsolatedIsPlain {mem : Cells} {l o k : Value} (hl : sliceB mem K5 l = true) (ho : sliceB mem K1 o = true) (hk : sliceB mem K1 k = true) (p3 : Int) : F_law12_GroupIsolatedIsPlain mem l o k p3 = true := by
  rw [F_law12_GroupIsolatedIsPlain_eq]
  extract_lets -merge x0 x1 x2 x3 x4 x5 x6 x7 x8 x9 x10 x11 x12 x13 x14 x15 x16 x17 x18 x19 x20 x21 x22 x23 x24 x25 x26 x27 x28 x29 x30 x31 x32 x33 x34 x35 x36 x37 x38 x39 x40 x41 x42 x43 x44 x45 x46 x47 x48 x49 x50 x51 x52 x53 x54 x55 x56 x57 x58 x59 x60 x61 x62 x63 x64 x65 x66 x67 x68 x69 x70 x71 x72 x73 x74 x75 x76 x77 x78 x79 x80 x81 x82 x83 x84 x85 x86 x87 x88 x89 x90 x91 x92 x93 x94 x95 x96 x97 x98 x99 x100 x101 x102 x103 x104 x105 x106 x107 x108 x109 x110 x111 x112 x113 x114 x115 x116 x117 x118 x119 x120 x121 x122 x123 x124 x125 x126 x127 x128 x129
  have e0 : x0 = true := slice_isSl hl
  have hm : x11 = 255 ∨ x11 = 65535 := (mMax p3).1
  have hz : x14 = (0, 0, 0, 0, 0, 0, 0, 0, 0, 0, 0) := begin0
  simp only [e0, cond_true]
  by_cases h0 : 0 < x1
  case neg =>
    simp only [decide_eq_false h0, cond_false]
    have hm0 : x128 = 255 ∨ x128 = 65535 := (mMax p3).1
    have hz0 : x127 = (0, 0, 0, 0, 0, 0, 0, 0, 0, 0, 0) := begin0
    have ax126 : x126 = true := awake12
    have yx129 := endI hm0 hz0 (iso0 hm0 hz0)
    have yx129 : x129 = _ := yx129
    simp only [ax126, yx129, cond_true, beq_self_eq_true, Bool.and_self]
  have g0 := slice_ix hl (show (0 : Int) ≤ 0 by decide) h0
  have ex2 : x2 = true := pre_at ho 0
  have ex3 : x3 = true := pre_at hk 0
  have ex4 : x4 = true := g0.1
  have ex6 : x6 = true := g0.2
  have i0 : Iso x11 x15 x16 := stepI hm hz (iso0 hm hz) x7 x9 _ _ _ _ _
  obtain ⟨t0, u0, w0⟩ := iso_t hm hz i0
  simp only [decide_eq_true h0, ex2, ex3, ex4, ex6, t0, u0, w0, Bool.not_true, cond_true, cond_false]
  by_cases h1 : 1 < x1
  case neg =>
    simp only [decide_eq_false h1, cond_false]
    have ax124 : x124 = true := awake12
    have yx125 := endI hm hz i0
    have yx125 : x125 = _ := yx125
    simp only [ax124, yx125, cond_true, beq_self_eq_true, Bool.and_self]
  have g1 := slice_ix hl (show (0 : Int) ≤ 1 by decide) h1
  have ex17 : x17 = true := pre_at ho 1
  have ex18 : x18 = true := pre_at hk 1
  have ex19 : x19 = true := g1.1
  have ex21 : x21 = true := g1.2
  have i1 : Iso x11 x28 x29 := stepI hm hz i0 x22 x24 _ _ _ _ _
  obtain ⟨t1, u1, w1⟩ := iso_t hm hz i1
  simp only [decide_eq_true h1, ex17, ex18, ex19, ex21, t1, u1, w1, Bool.not_true, cond_true, cond_false]
  by_cases h2 : 2 < x1
  case neg =>
    simp only [decide_eq_false h2, cond_false]
    have ax122 : x122 = true := awake12
    have yx123 := endI hm hz i1
    have yx123 : x123 = _ := yx123
    simp only [ax122, yx123, cond_true, beq_self_eq_true, Bool.and_self]
  have g2 := slice_ix hl (show (0 : Int) ≤ 2 by decide) h2
  have ex30 : x30 = true := pre_at ho 2
  have ex31 : x31 = true := pre_at hk 2
  have ex32 : x32 = true := g2.1
  have ex34 : x34 = true := g2.2
  have i2 : Iso x11 x41 x42 := stepI hm hz i1 x35 x37 _ _ _ _ _
  obtain ⟨t2, u2, w2⟩ := iso_t hm hz i2
  simp only [decide_eq_true h2, ex30, ex31, ex32, ex34, t2, u2, w2, Bool.not_true, cond_true, cond_false]
  by_cases h3 : 3 < x1
  case neg =>
    simp only [decide_eq_false h3, cond_false]
    have ax120 : x120 = true := awake12
    have yx121 := endI hm hz i2
    have yx121 : x121 = _ := yx121
    simp only [ax120, yx121, cond_true, beq_self_eq_true, Bool.and_self]
  have g3 := slice_ix hl (show (0 : Int) ≤ 3 by decide) h3
  have ex43 : x43 = true := pre_at ho 3
  have ex44 : x44 = true := pre_at hk 3
  have ex45 : x45 = true := g3.1
  have ex47 : x47 = true := g3.2
  have i3 : Iso x11 x54 x55 := stepI hm hz i2 x48 x50 _ _ _ _ _
  obtain ⟨t3, u3, w3⟩ := iso_t hm hz i3
  simp only [decide_eq_true h3, ex43, ex44, ex45, ex47, t3, u3, w3, Bool.not_true, cond_true, cond_false]
  by_cases h4 : 4 < x1
  case neg =>
    simp only [decide_eq_false h4, cond_false]
    have ax118 : x118 = true := awake12
    have yx119 := endI hm hz i3
    have yx119 : x119 = _ := yx119
    simp only [ax118, yx119, cond_true, beq_self_eq_true, Bool.and_self]
  have g4 := slice_ix hl (show (0 : Int) ≤ 4 by decide) h4
  have ex56 : x56 = true := pre_at ho 4
  have ex57 : x57 = true := pre_at hk 4
  have ex58 : x58 = true := g4.1
  have ex60 : x60 = true := g4.2
  have i4 : Iso x11 x67 x68 := stepI hm hz i3 x61 x63 _ _ _ _ _
  obtain ⟨t4, u4, w4⟩ := iso_t hm hz i4
  simp only [decide_eq_true h4, ex56, ex57, ex58, ex60, t4, u4, w4, Bool.not_true, cond_true, cond_false]
  by_cases h5 : 5 < x1
  case neg =>
    simp only [decide_eq_false h5, cond_false]
    have ax116 : x116 = true := awake12
    have yx117 := endI hm hz i4
    have yx117 : x117 = _ := yx117
    simp only [ax116, yx117, cond_true, beq_self_eq_true, Bool.and_self]
  have g5 := slice_ix hl (show (0 : Int) ≤ 5 by decide) h5
  have ex69 : x69 = true := pre_at ho 5
  have ex70 : x70 = true := pre_at hk 5
  have ex71 : x71 = true := g5.1
  have ex73 : x73 = true := g5.2
  have i5 : Iso x11 x80 x81 := stepI hm hz i4 x74 x76 _ _ _ _ _
  obtain ⟨t5, u5, w5⟩ := iso_t hm hz i5
  simp only [decide_eq_true h5, ex69, ex70, ex71, ex73, t5, u5, w5, Bool.not_true, cond_true, cond_false]
  by_cases h6 : 6 < x1
  case neg =>
    simp only [decide_eq_false h6, cond_false]
    have ax114 : x114 = true := awake12
    have yx115 := endI hm hz i5
    have yx115 : x115 = _ := yx115
    simp only [ax114, yx115, cond_true, beq_self_eq_true, Bool.and_self]
  have g6 := slice_ix hl (show (0 : Int) ≤ 6 by decide) h6
  have ex82 : x82 = true := pre_at ho 6
  have ex83 : x83 = true := pre_at hk 6
  have ex84 : x84 = true := g6.1
  have ex86 : x86 = true := g6.2
  have i6 : Iso x11 x93 x94 := stepI hm hz i5 x87 x89 _ _ _ _ _
  obtain ⟨t6, u6, w6⟩ := iso_t hm hz i6
  simp only [decide_eq_true h6, ex82, ex83, ex84, ex86, t6, u6, w6, Bool.not_true, cond_true, cond_false]
  by_cases h7 : 7 < x1
  case neg =>
    simp only [decide_eq_false h7, cond_false]
    have ax112 : x112 = true := awake12
    have yx113 := endI hm hz i6
    have yx113 : x113 = _ := yx113
    simp only [ax112, yx113, cond_true, beq_self_eq_true, Bool.and_self]
  have g7 := slice_ix hl (show (0 : Int) ≤ 7 by decide) h7
  have ex95 : x95 = true := pre_at ho 7
  have ex96 : x96 = true := pre_at hk 7
  have ex97 : x97 = true := g7.1
  have ex99 : x99 = true := g7.2
  have i7 : Iso x11 x106 x107 := stepI hm hz i6 x100 x102 _ _ _ _ _
  obtain ⟨t7, u7, w7⟩ := iso_t hm hz i7
  simp only [decide_eq_true h7, ex95, ex96, ex97, ex99, t7, u7, w7, Bool.not_true, cond_true, cond_false]
  by_cases h8 : 8 < x1
  case neg =>
    simp only [decide_eq_false h8, cond_false]
    have ax110 : x110 = true := awake12
    have yx111 := endI hm hz i7
    have yx111 : x111 = _ := yx111
    simp only [ax110, yx111, cond_true, beq_self_eq_true, Bool.and_self]
  case pos =>
    simp only [decide_eq_true h8, cond_true]
    have ax108 : x108 = true := awake12
    have yx109 := endI hm hz i7
    have yx109 : x109 = _ := yx109
    simp only [ax108, yx109, cond_true, beq_self_eq_true, Bool.and_self]
end Go.Proofs.YtjgmipklbpghfaaDoor
