/- The statements of chapter 22, as plain laws: three of them. -/
import Derived.Test.YtdioaiepkhepaaaDoorSm22b
namespace Go.Proofs.YtdioaiepkhepaaaDoor
set_option maxRecDepth 100000
open Go.RowKit

/-- The level with which a machine begins. -/
def baseC : List Value := [.int .i64 2, .int .i64 0, .int .i64 0, .int .i64 0, .int .i64 0, .int .i64 0, .int .i64 0, .int .u16 0, .int .i64 0, .int .i64 0, .bool true, .bool false, .int .u16 0, .int .u16 0, .int .u16 0, .int .u16 0, .int .u16 0, .int .u16 0, .int .u16 0, .int .u16 0, .int .u16 0, .int .u16 0, .int .u16 0]
theorem base_ix : IX (LSV 23 1 baseC) (LN (LSV 23 1 baseC) - 1) = .agg baseC.toArray := by
  rw [LN_LSV, LSV1 (show baseC.length = 23 from rfl)]
  rfl
/-- The first step of a machine is permitted. -/
theorem base_step {o k m c0 c1 c2 a f : Int} (hm : m = 255 ∨ m = 65535) (ho : 1 ≤ o ∧ o ≤ 12) (hk : 1 ≤ k ∧ k ≤ 12) (p : PV c0 c1 c2 a f m) : stepL o k m (c0, c1, c2, a, f, true) (.agg baseC.toArray) = stepZ false o k m c0 c1 c2 a f 0 0 0 0 0 0 0 0 0 0 := by
  have m1 : Is16 m := ⟨by omega, by omega⟩
  have z : VP 0 0 0 0 0 m := (PV.zero (by omega)).vp
  refine (pStep (kn := false) (o := o) (k := k) (c0 := 0) (c1 := 0) (c2 := 0) (A := 0) (own := 0) (F := 0) (b0 := 0) (b1 := 0) (b2 := 0) (b := 0) (g := 0) m1 (p.p16 m1.2) ⟨⟨by decide, by decide⟩, ⟨by decide, by decide⟩, ⟨by decide, by decide⟩, ⟨by decide, by decide⟩, ⟨by decide, by decide⟩, ⟨by decide, by decide⟩⟩ ((PV.zero (by omega)).p16 m1.2)).trans (if_pos ⟨ho, hk, ⟨Int.le_refl 0, Int.le_refl 0, Int.le_refl 0, hm, Int.le_refl 0, Int.le_refl 0, m1.1, m1.1, z, rfl⟩, p.vp, fun h => by cases h⟩)
/-- Draw on a fresh machine. -/
theorem draw_first {q1 q2 q3 q4 q5 q6 r o k : Int} {b0 b1 : Bool} {c0 c1 c2 a f s m : Int} (hm : m = 255 ∨ m = 65535) (p : PV c0 c1 c2 a f m) (hs : Is16 s) (hs' : q4 = 0 ∨ s ≤ m) (r0 : 0 ≤ r) (r1 : r ≤ m) (ho : 1 ≤ o ∧ o ≤ 12) (hk : 1 ≤ k ∧ k ≤ 12) :
    ∃ x0 x1 x2 x3 x4 : Int, F_ref06_Both c0 c1 c2 a f (if q4 = 0 then m else s) r m = (x0, x1, x2, x3, x4, true) ∧ PV x0 x1 x2 x3 x4 m ∧
      LF_frame_Machine_Draw [.int .i64 1, .int .i64 q1, .int .i64 q2, .int .i64 q3, .int .i64 q4, .int .i64 q5, .int .i64 q6, .int .u16 r, .int .i64 o, .int .i64 k, .bool b0, .bool b1, .int .u16 c0, .int .u16 c1, .int .u16 c2, .int .u16 a, .int .u16 f, .int .u16 s, .int .u16 m, LSV 23 1 baseC] =
        [.int .i64 0, .int .u16 x0, .int .u16 x1, .int .u16 x2, .int .u16 x3, .int .u16 x4, .int .i64 0, .int .u16 m, ST 0 (LSV 23 1 baseC) 0 (opsC (.agg baseC.toArray) ++ (acC (stepZ false o k m x0 x1 x2 x3 x4 0 0 0 0 0 0 0 0 0 0) ++ bckC (.agg baseC.toArray)))] := by
  have m1 : 1 ≤ m := by omega
  have m2 : m ≤ 65535 := by omega
  have k0 : 0 ≤ (if q4 = 0 then m else s) := by split <;> first | omega | exact hs.1
  have k1 : (if q4 = 0 then m else s) ≤ m := by
    split
    · exact Int.le_refl m
    · rename_i h
      exact hs'.resolve_left h
  generalize hkk : (if q4 = 0 then m else s) = kk at k0 k1 ⊢
  have q := sclV_pv m1 p k0 k1
  have q' := sclV_pv m1 q r0 r1
  have e := bothR (o := r) (p.p16 m2) (k := kk) ⟨k0, by omega⟩ ⟨r0, by omega⟩ (m := m)
  rw [if_pos ⟨hm, p.vp, k1, r1⟩] at e
  unfold sclV at e
  refine ⟨_, _, _, _, _, e, q', ?_⟩
  rw [drawV (lenOK.lit _ _) (p.p16 m2) hm hs ⟨r0, by omega⟩]
  unfold drawZ
  rw [if_neg (show ¬ ((1 : Int) ≠ 1 ∨ ¬ VP c0 c1 c2 a f m) from fun h => h.elim (fun e => e rfl) (fun e => e p.vp)), hkk, e]
  have st := base_step (o := o) (k := k) hm ho hk q'
  generalize scl (scl c0 kk m) r m = x0 at st ⊢
  generalize scl (scl c1 kk m) r m = x1 at st ⊢
  generalize scl (scl c2 kk m) r m = x2 at st ⊢
  generalize scl (scl a kk m) r m = x3 at st ⊢
  generalize scl (scl f kk m) r m = x4 at st ⊢
  have l : LN (LSV 23 1 baseC) - 1 = 0 := by rw [LN_LSV]; rfl
  have bx := base_ix
  rw [l] at bx ⊢
  have y : (stepZ false o k m x0 x1 x2 x3 x4 0 0 0 0 0 0 0 0 0 0).2.2.2.2.2.2 = true := by unfold stepZ; rw [if_neg (by decide)]
  simp only [Bool.not_true, cond_false, bx, st, y]
theorem awake22 : F_law22_awake = true := by
  have p : PV 9 0 0 10 20 255 := ⟨by decide, by decide, by decide, by decide, by decide, by decide, by decide, by decide⟩
  obtain ⟨x0, x1, x2, x3, x4, hb, hp, hd⟩ := draw_first (q1 := 0) (q2 := 0) (q3 := 0) (q4 := 0) (q5 := 0) (q6 := 0) (r := 255) (o := 4) (k := 1) (b0 := false) (b1 := false) (s := 0) (.inl rfl) p ⟨by decide, by decide⟩ (.inl rfl) (by decide) (by decide) (by decide) (by decide)
  rw [if_pos rfl, bothR (p.p16 (by decide)) ⟨by decide, by decide⟩ ⟨by decide, by decide⟩, if_pos ⟨.inl rfl, p.vp, by decide, by decide⟩] at hb
  simp only [sclV, scl_full (show (1 : Int) ≤ 255 by decide), Prod.mk.injEq, and_true] at hb
  obtain ⟨rfl, rfl, rfl, rfl, rfl⟩ := hb
  rw [step22 (.inl rfl) p] at hd
  generalize hL1 : ST 0 (LSV 23 1 baseC) 0 (opsC (.agg baseC.toArray) ++ (acC (9, 0, 0, 10, 10, 20, true) ++ bckC (.agg baseC.toArray))) = L1 at hd
  have len1 : LN L1 = 1 := by rw [← hL1, LN_ST, LN_LSV]; rfl
  have k1 : lenOK L1 = true := lenOK.of (by omega) (by omega)
  have ix1 : IX L1 0 = .agg (opsC (.agg baseC.toArray) ++ (acC (9, 0, 0, 10, 10, 20, true) ++ bckC (.agg baseC.toArray))).toArray := by
    rw [← hL1, IX_ST_same (by decide) (by rw [LN_LSV]; decide), LSV1 (show baseC.length = 23 from rfl)]
    rfl
  have q0 : pre_frame_Machine_Draw [.int .i64 1, .int .i64 0, .int .i64 0, .int .i64 0, .int .i64 0, .int .i64 0, .int .i64 0, .int .u16 255, .int .i64 4, .int .i64 1, .bool false, .bool false, .int .u16 9, .int .u16 0, .int .u16 0, .int .u16 10, .int .u16 20, .int .u16 0, .int .u16 255, LSV 23 1 baseC] = true := lenOK.lit _ _
  have q1 : pre_frame_Machine_Push [.int .i64 2, .int .i64 0, .int .i64 0, .int .i64 0, .int .i64 0, .int .i64 0, .int .i64 0, .int .u16 255, .int .i64 4, .int .i64 1, .bool false, .bool false, .int .u16 255, L1] = true := k1
  have q2 : pre_frame_Machine_top [PK [.int .u16 255, L1]] = true := k1
  have tp : F_frame_Machine_top (PK [.int .u16 255, L1]) = (2, 0, 0, 0, 0, 0, 0, 0, 0, 0, true, false, 9, 0, 0, 10, 10, 20, 0, 0, 0, 0, 0) := by
    rw [F_frame_Machine_top_eq]
    have e : CV (PK [.int .u16 255, L1]) 1 = L1 := rfl
    rw [e, lenOK.last k1, lenOK.sub k1, len1, show (1 : Int) - 1 = 0 by decide, ix1]
    rfl
  have dp : F_frame_Machine_Depth (PK [.int .u16 255, L1]) = 0 := by
    rw [F_frame_Machine_Depth_eq]
    exact (lenOK.sub k1).trans (by omega)
  have bg : F_group_Begin false false 9 0 0 10 10 20 0 0 0 0 0 = (9, 0, 0, 10, 0, 0, 9, 0, 0, 10, 10) := by
    rw [F_group_Begin_eq]
    rfl
  have q3 : ∀ vs, pre_frame_Machine_Depth vs = true := fun _ => rfl
  have pu : ∃ L2, LF_frame_Machine_Push [.int .i64 2, .int .i64 0, .int .i64 0, .int .i64 0, .int .i64 0, .int .i64 0, .int .i64 0, .int .u16 255, .int .i64 4, .int .i64 1, .bool false, .bool false, .int .u16 255, L1] = [.int .i64 0, .int .i64 0, .int .u16 255, L2] ∧ LN L2 = 2 ∧ IX L2 1 = .agg #[.int .i64 2, .int .i64 0, .int .i64 0, .int .i64 0, .int .i64 0, .int .i64 0, .int .i64 0, .int .u16 255, .int .i64 4, .int .i64 1, .bool false, .bool false, .int .u16 9, .int .u16 0, .int .u16 0, .int .u16 10, .int .u16 0, .int .u16 0, .int .u16 9, .int .u16 0, .int .u16 0, .int .u16 10, .int .u16 10] := by
    rw [LF_frame_Machine_Push_eq]
    unfold OUT_frame_Machine_Push
    simp only [q2, q3, dp, tp, bg, lenOK.push k1, cond_true, bne_self_eq_false, cond_false]
    rw [decide_eq_false (show ¬ (0 : Int) ≥ 64 by decide), cond_false]
    refine ⟨_, rfl, by rw [LN_CT, LN_LSV, len1]; rfl, ?_⟩
    rw [CT_LSV1 (k := 23) (by rfl)]
    have := IX_SN_last L1
    rw [len1] at this
    rw [this]
  obtain ⟨L2, hpu, len2, ix2⟩ := pu
  have k2 : lenOK L2 = true := lenOK.of (by omega) (by omega)
  have q4 : pre_frame_Machine_Acc [PK [.int .u16 255, L2]] = true := k2
  have q5 : pre_frame_Machine_top [PK [.int .u16 255, L2]] = true := k2
  have dp2 : F_frame_Machine_Depth (PK [.int .u16 255, L2]) = 1 := by
    rw [F_frame_Machine_Depth_eq]
    exact (lenOK.sub k2).trans (by omega)
  have ac : F_frame_Machine_Acc (PK [.int .u16 255, L2]) = (9, 0, 0, 10, 0, 0) := by
    rw [F_frame_Machine_Acc_eq, q5, cond_true, F_frame_Machine_top_eq]
    have e : CV (PK [.int .u16 255, L2]) 1 = L2 := rfl
    rw [e, lenOK.last k2, lenOK.sub k2, len2, show (2 : Int) - 1 = 1 by decide, ix2]
    rfl
  rw [F_law22_awake_eq]
  change (bif pre_frame_Machine_Draw [.int .i64 1, .int .i64 0, .int .i64 0, .int .i64 0, .int .i64 0, .int .i64 0, .int .i64 0, .int .u16 255, .int .i64 4, .int .i64 1, .bool false, .bool false, .int .u16 9, .int .u16 0, .int .u16 0, .int .u16 10, .int .u16 20, .int .u16 0, .int .u16 255, LSV 23 1 baseC] then _ else _) = true
  rw [q0, cond_true]
  unfold baseC at hd
  simp only [hd, List.getD_cons_succ, List.getD_cons_zero, num_int, q1, hpu, q4, q3, dp2, ac, cond_true]
  rfl
theorem frameNewRejects (p0 : Int) : F_law22_FrameNewRejects p0 = true := by
  rw [F_law22_FrameNewRejects_eq, awake22, full_dec]
  by_cases h1 : p0 = 255
  · subst h1
    rfl
  · by_cases h2 : p0 = 65535
    · subst h2
      rfl
    · rw [show (p0 != 255) = true from bne_iff_ne.2 h1, show (p0 != 65535) = true from bne_iff_ne.2 h2, decide_eq_false (show ¬ (p0 = 255 ∨ p0 = 65535) by omega)]
      rfl
/-- The heart of FrameScaledSource. -/
theorem scaled_core {m : Int} {x : Int × Int × Int × Int × Int × Int × Int × Int × Int × Int × Bool × Bool} {c0 c1 c2 a f s : Int} (hm : m = 255 ∨ m = 65535) (hx : OpV 1 m x) (p : PV c0 c1 c2 a f m) (hs : Is16 s) (hs' : x.2.2.2.2.1 = 0 ∨ s ≤ m) :
    ∃ x0 x1 x2 x3 x4 e5 : Int, ∃ L, F_ref06_Both c0 c1 c2 a f (if x.2.2.2.2.1 = 0 then m else s) x.2.2.2.2.2.2.2.1 m = (x0, x1, x2, x3, x4, true) ∧ e5 = 0 ∧
      LF_frame_Machine_Draw [.int .i64 x.1, .int .i64 x.2.1, .int .i64 x.2.2.1, .int .i64 x.2.2.2.1, .int .i64 x.2.2.2.2.1, .int .i64 x.2.2.2.2.2.1, .int .i64 x.2.2.2.2.2.2.1, .int .u16 x.2.2.2.2.2.2.2.1, .int .i64 x.2.2.2.2.2.2.2.2.1, .int .i64 x.2.2.2.2.2.2.2.2.2.1, .bool x.2.2.2.2.2.2.2.2.2.2.1, .bool x.2.2.2.2.2.2.2.2.2.2.2, .int .u16 c0, .int .u16 c1, .int .u16 c2, .int .u16 a, .int .u16 f, .int .u16 s, .int .u16 m, LSV 23 1 baseC] =
        [.int .i64 0, .int .u16 x0, .int .u16 x1, .int .u16 x2, .int .u16 x3, .int .u16 x4, .int .i64 e5, .int .u16 m, L] := by
  obtain ⟨h0, ⟨h1, h2⟩, h3, h4⟩ := hx
  obtain ⟨x0, x1, x2, x3, x4, hb, hp, hd⟩ := draw_first (q1 := x.2.1) (q2 := x.2.2.1) (q3 := x.2.2.2.1) (q4 := x.2.2.2.2.1) (q5 := x.2.2.2.2.2.1) (q6 := x.2.2.2.2.2.2.1) (b0 := x.2.2.2.2.2.2.2.2.2.2.1) (b1 := x.2.2.2.2.2.2.2.2.2.2.2) hm p hs hs' h1 h2 h3 h4
  exact ⟨x0, x1, x2, x3, x4, 0, _, hb, rfl, by rw [h0]; exact hd⟩
theorem u16w (x : Int) : Is16 (IntKind.u16.wrap x) := by
  rw [IntKind.wrap_u16]
  constructor <;> omega
theorem scaled_law {m : Int} (hm : m = 255 ∨ m = 65535) (p0 p1 p2 p3 p4 p5 p6 p7 p8 p9 p10 p11 p12 p13 p14 p15 p16 p17 : Int) :
    (let x2 := F_gen_Op p0 p1 p2 p3 p4 p5 p6 p7 p8 p9 p10 false 3 0 0 3 3 true m
      bif (x2.2.2.2.2.1 == 0) then
        (let x3 := F_gen_Pixel p11 p12 p13 p14 p15 m
        let x4 := LF_frame_Machine_Draw [.int .i64 x2.1, .int .i64 x2.2.1, .int .i64 x2.2.2.1, .int .i64 x2.2.2.2.1, .int .i64 x2.2.2.2.2.1, .int .i64 x2.2.2.2.2.2.1, .int .i64 x2.2.2.2.2.2.2.1, .int .u16 x2.2.2.2.2.2.2.2.1, .int .i64 x2.2.2.2.2.2.2.2.2.1, .int .i64 x2.2.2.2.2.2.2.2.2.2.1, .bool x2.2.2.2.2.2.2.2.2.2.2.1, .bool x2.2.2.2.2.2.2.2.2.2.2.2, .int .u16 x3.1, .int .u16 x3.2.1, .int .u16 x3.2.2.1, .int .u16 x3.2.2.2.1, .int .u16 x3.2.2.2.2, .int .u16 (IntKind.u16.wrap p17), .int .u16 m, LSV 23 1 baseC]
        bif ((num (x4.getD 6 undef)) == 0) then
          (let x5 := F_ref06_Both x3.1 x3.2.1 x3.2.2.1 x3.2.2.2.1 x3.2.2.2.2 m x2.2.2.2.2.2.2.2.1 m
          ((((num (x4.getD 1 undef)) == x5.1) && (((num (x4.getD 2 undef)) == x5.2.1) && ((num (x4.getD 3 undef)) == x5.2.2.1))) && (((num (x4.getD 4 undef)) == x5.2.2.2.1) && ((num (x4.getD 5 undef)) == x5.2.2.2.2.1))))
        else (false))
      else
        (let x6 := F_gen_Pixel p11 p12 p13 p14 p15 m
        let x7 := F_gen_Sample p16 m
        let x8 := LF_frame_Machine_Draw [.int .i64 x2.1, .int .i64 x2.2.1, .int .i64 x2.2.2.1, .int .i64 x2.2.2.2.1, .int .i64 x2.2.2.2.2.1, .int .i64 x2.2.2.2.2.2.1, .int .i64 x2.2.2.2.2.2.2.1, .int .u16 x2.2.2.2.2.2.2.2.1, .int .i64 x2.2.2.2.2.2.2.2.2.1, .int .i64 x2.2.2.2.2.2.2.2.2.2.1, .bool x2.2.2.2.2.2.2.2.2.2.2.1, .bool x2.2.2.2.2.2.2.2.2.2.2.2, .int .u16 x6.1, .int .u16 x6.2.1, .int .u16 x6.2.2.1, .int .u16 x6.2.2.2.1, .int .u16 x6.2.2.2.2, .int .u16 x7, .int .u16 m, LSV 23 1 baseC]
        bif ((num (x8.getD 6 undef)) == 0) then
          (let x9 := F_ref06_Both x6.1 x6.2.1 x6.2.2.1 x6.2.2.2.1 x6.2.2.2.2 x7 x2.2.2.2.2.2.2.2.1 m
          ((((num (x8.getD 1 undef)) == x9.1) && (((num (x8.getD 2 undef)) == x9.2.1) && ((num (x8.getD 3 undef)) == x9.2.2.1))) && (((num (x8.getD 4 undef)) == x9.2.2.2.1) && ((num (x8.getD 5 undef)) == x9.2.2.2.2.1))))
        else (false))) = true := by
  have m16 : Is16 m := ⟨by omega, by omega⟩
  have ho := gOp p0 p1 p2 p3 p4 p5 p6 p7 p8 p9 p10 false 3 0 0 3 3 true m16
  rw [if_neg (by decide)] at ho
  have hp := gPixelV p11 p12 p13 p14 p15 (m := m) m16.1 m16.2
  have hs := gSample_le p16 m16
  generalize F_gen_Op p0 p1 p2 p3 p4 p5 p6 p7 p8 p9 p10 false 3 0 0 3 3 true m = x at ho ⊢
  generalize F_gen_Pixel p11 p12 p13 p14 p15 m = y at hp ⊢
  generalize F_gen_Sample p16 m = s at hs ⊢
  by_cases h : x.2.2.2.2.1 = 0
  · obtain ⟨x0, x1, x2, x3, x4, e5, L, hb, rfl, hd⟩ := scaled_core hm ho hp (u16w p17) (.inl h)
    rw [if_pos h] at hb
    simp only [show (x.2.2.2.2.1 == 0) = true from beq_iff_eq.2 h, cond_true, hd, hb, List.getD_cons_succ, List.getD_cons_zero, num_int, beq_self_eq_true, Bool.and_self]
  · obtain ⟨x0, x1, x2, x3, x4, e5, L, hb, rfl, hd⟩ := scaled_core hm ho hp ⟨hs.1, Int.le_trans hs.2 m16.2⟩ (.inr hs.2)
    rw [if_neg h] at hb
    simp only [show (x.2.2.2.2.1 == 0) = false from beq_eq_false_iff_ne.2 h, cond_false, cond_true, hd, hb, List.getD_cons_succ, List.getD_cons_zero, num_int, beq_self_eq_true, Bool.and_self]
theorem frameScaledSource (p0 p1 p2 p3 p4 p5 p6 p7 p8 p9 p10 p11 p12 p13 p14 p15 p16 p17 p18 : Int) : F_law22_FrameScaledSource p0 p1 p2 p3 p4 p5 p6 p7 p8 p9 p10 p11 p12 p13 p14 p15 p16 p17 p18 = true := by
  have hp : ∀ a b c d e f g h i j k l m n o p q r s, pre_frame_Machine_Draw [a, b, c, d, e, f, g, h, i, j, k, l, m, n, o, p, q, r, s, LSV 23 1 baseC] = true := fun _ _ _ _ _ _ _ _ _ _ _ _ _ _ _ _ _ _ _ => lenOK.lit _ _
  unfold baseC at hp
  rw [F_law22_FrameScaledSource_eq, awake22]
  rcases gMax_or p18 with h | h
  · rw [h]
    have := scaled_law (.inl rfl) p0 p1 p2 p3 p4 p5 p6 p7 p8 p9 p10 p11 p12 p13 p14 p15 p16 p17
    unfold baseC at this
    simp only [hp, cond_true, bne_self_eq_false, cond_false, Bool.not_true]
    exact this
  · rw [h]
    have := scaled_law (.inr rfl) p0 p1 p2 p3 p4 p5 p6 p7 p8 p9 p10 p11 p12 p13 p14 p15 p16 p17
    unfold baseC at this
    have e : ((65535 : Int) != 255) = true := by decide
    simp only [hp, e, cond_true, bne_self_eq_false, cond_false, Bool.not_true]
    exact this
/-- All groups that fit are opened. -/
theorem nests_loop : ∀ (N : Nat) (k i m : Int) (L : Value) (q1 q2 q3 q4 q5 q6 r o d : Int) (b0 b1 : Bool), (k - i).toNat ≤ N → 0 ≤ i → i ≤ k → k ≤ 70 → LN L = 1 + (if i ≥ 64 then 64 else i) →
    ∃ L', LF_law22_FrameNests_7 [.int .i64 k, .int .i64 i, .int .u16 m, L, .int .i64 2, .int .i64 q1, .int .i64 q2, .int .i64 q3, .int .i64 q4, .int .i64 q5, .int .i64 q6, .int .u16 r, .int .i64 o, .int .i64 d, .bool b0, .bool b1] = [.int .i64 1, .int .i64 k, .int .u16 m, L'] ∧ LN L' = 1 + (if k ≥ 64 then 64 else k)
  | N, k, i, m, L, q1, q2, q3, q4, q5, q6, r, o, d, b0, b1, hN, h0, h1, h2, h3 => by
    have hL : lenOK L = true := lenOK.of (by split at h3 <;> omega) (by split at h3 <;> omega)
    have hq : ∀ a b c d e f g h i j k l m, pre_frame_Machine_Push [a, b, c, d, e, f, g, h, i, j, k, l, m, L] = true := fun _ _ _ _ _ _ _ _ _ _ _ _ _ => hL
    obtain ⟨L', hx, hl⟩ := pushV (q0 := 2) (q1 := q1) (q2 := q2) (q3 := q3) (q4 := q4) (q5 := q5) (q6 := q6) (r := r) (o := o) (k := d) (b0 := b0) (b1 := b1) (m := m) hL rfl
    rw [LF_law22_FrameNests_7_go]
    unfold OUT_law22_FrameNests_7
    simp only [hq, hx, List.getD_cons_succ, List.getD_cons_zero, num_int, cond_true, goOn_bif, goOn_next]
    by_cases h : i < k
    · rw [decide_eq_true h, cond_true, i64_in (by omega) (by omega)]
      match N, hN with
      | 0, hN => omega
      | N + 1, hN =>
        by_cases h64 : i ≥ 64
        · rw [if_pos h64] at h3
          rw [if_pos (show LN L ≥ 65 by omega)] at hl ⊢
          rw [decide_eq_false (show ¬ i < 64 by omega)]
          exact nests_loop N k (i + 1) m L' q1 q2 q3 q4 q5 q6 r o d b0 b1 (by omega) (by omega) (by omega) h2 (by rw [if_pos (show i + 1 ≥ 64 by omega)]; omega)
        · rw [if_neg h64] at h3
          rw [if_neg (show ¬ LN L ≥ 65 by omega)] at hl ⊢
          rw [decide_eq_true (show i < 64 by omega)]
          exact nests_loop N k (i + 1) m L' q1 q2 q3 q4 q5 q6 r o d b0 b1 (by omega) (by omega) (by omega) h2 (by split <;> omega)
    · rw [decide_eq_false h, cond_false]
      have : i = k := by omega
      subst this
      exact ⟨L, rfl, h3⟩
theorem frameNests (p0 p1 p2 p3 p4 p5 p6 p7 p8 p9 p10 p11 : Int) : F_law22_FrameNests p0 p1 p2 p3 p4 p5 p6 p7 p8 p9 p10 p11 = true := by
  have hm := mod_bd p0 (n := 70) (by decide) (by decide)
  have ho := gOp p1 p2 p3 p4 p5 p6 p7 p8 p9 p10 p11 true 3 0 0 3 3 false (m := 255) ⟨by decide, by decide⟩
  rw [if_pos rfl] at ho
  rw [F_law22_FrameNests_eq, awake22]
  dsimp only
  rw [Bool.not_true, cond_false]
  generalize F_gen_Mod p0 70 = k at hm ⊢
  generalize F_gen_Op p1 p2 p3 p4 p5 p6 p7 p8 p9 p10 p11 true 3 0 0 3 3 false 255 = x at ho ⊢
  rw [nests_start k hm.1 (by omega), cond_true, ho.1]
  obtain ⟨L', hx, hl⟩ := nests_loop _ k 0 255 (LSV 23 1 baseC) x.2.1 x.2.2.1 x.2.2.2.1 x.2.2.2.2.1 x.2.2.2.2.2.1 x.2.2.2.2.2.2.1 x.2.2.2.2.2.2.2.1 x.2.2.2.2.2.2.2.2.1 x.2.2.2.2.2.2.2.2.2.1 x.2.2.2.2.2.2.2.2.2.2.1 x.2.2.2.2.2.2.2.2.2.2.2 (Nat.le_refl _) (by decide) hm.1 (by omega) (by rw [LN_LSV]; decide)
  unfold baseC at hx
  have k1 : lenOK L' = true := lenOK.of (by split at hl <;> omega) (by split at hl <;> omega)
  have q1 : pre_frame_Machine_Result [PK [.int .u16 255, L']] = true := k1
  have q2 : ∀ vs, pre_frame_Machine_Depth vs = true := fun _ => rfl
  have q3 : pre_frame_Machine_top [PK [.int .u16 255, L']] = true := k1
  have dp : F_frame_Machine_Depth (PK [.int .u16 255, L']) = LN L' - 1 := by
    rw [F_frame_Machine_Depth_eq]
    exact lenOK.sub k1
  rw [hx]
  have ix : IXT [.int .i64 1, .int .i64 k, .int .u16 255, L'] 0 = false := rfl
  have mn : (if 64 < k then 64 else k) = LN L' - 1 := by
    rw [hl]
    by_cases h : 64 < k
    · rw [if_pos h, if_pos (by omega)]; rfl
    · rw [if_neg h]
      by_cases h2 : k ≥ 64
      · rw [if_pos h2]; omega
      · rw [if_neg h2]; omega
  simp only [ix, cond_false, List.getD_cons_succ, List.getD_cons_zero, num_int, q1, q2, cond_true, dp, mn, beq_self_eq_true]
  rw [F_frame_Machine_Result_eq]
  simp only [q2, q3, cond_true, dp]
  by_cases h : LN L' - 1 = 0
  · rw [h]
    rfl
  · rw [show (LN L' - 1 != 0) = true from bne_iff_ne.2 h, cond_true, show (LN L' - 1 == 0) = false from beq_eq_false_iff_ne.2 h]
    rfl
end Go.Proofs.YtdioaiepkhepaaaDoor
