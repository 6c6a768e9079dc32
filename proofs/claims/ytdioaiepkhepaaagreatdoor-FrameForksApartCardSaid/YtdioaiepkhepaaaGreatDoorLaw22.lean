/- The statements of chapter 22, as plain laws: three of them. -/
import Derived.Test.YtdioaiepkhepaaaGreatDoorMach
namespace Go.Proofs.YtdioaiepkhepaaaGreatDoor
set_option maxRecDepth 100000
open Go.RowKit
def baseC : List Value := [.int .i64 2, .int .i64 0, .int .i64 0, .int .i64 0, .int .i64 0, .int .i64 0, .int .i64 0, .int .u16 0, .int .i64 0, .int .i64 0, .bool true, .bool false, .int .u16 0, .int .u16 0, .int .u16 0, .int .u16 0, .int .u16 0, .int .u16 0, .int .u16 0, .int .u16 0, .int .u16 0, .int .u16 0, .int .u16 0]
theorem base_ix : IX (LSV 23 1 baseC) (LN (LSV 23 1 baseC) - 1) = .agg baseC.toArray := by
 rw [LN_LSV, LSV1 (show baseC.length = 23 from rfl)]
 rfl
theorem base_step {o k m c0 c1 c2 a f : Int} (hm : m = 255 ∨ m = 65535) (ho : 1 ≤ o ∧ o ≤ 12) (hk : 1 ≤ k ∧ k ≤ 12) (p : PV c0 c1 c2 a f m) : stepL o k m (c0, c1, c2, a, f, true) (.agg baseC.toArray) = stepZ false o k m c0 c1 c2 a f 0 0 0 0 0 0 0 0 0 0 := by
 have m1 : Is16 m := ⟨by omega, by omega⟩
 have z : VP 0 0 0 0 0 m := (PV.zero (by omega)).vp
 refine (pStep (kn := false) (o := o) (k := k) (c0 := 0) (c1 := 0) (c2 := 0) (A := 0) (own := 0) (F := 0) (b0 := 0) (b1 := 0) (b2 := 0) (b := 0) (g := 0) m1 (p.p16 m1.2) ⟨⟨by decide, by decide⟩, ⟨by decide, by decide⟩, ⟨by decide, by decide⟩, ⟨by decide, by decide⟩, ⟨by decide, by decide⟩, ⟨by decide, by decide⟩⟩ ((PV.zero (by omega)).p16 m1.2)).trans (if_pos ⟨ho, hk, ⟨Int.le_refl 0, Int.le_refl 0, Int.le_refl 0, hm, Int.le_refl 0, Int.le_refl 0, m1.1, m1.1, z, rfl⟩, p.vp, fun h => by cases h⟩)
theorem draw_first {q1 q2 q3 q4 q5 q6 r o k : Int} {b0 b1 : Bool} {c0 c1 c2 a f s m : Int} (hm : m = 255 ∨ m = 65535) (p : PV c0 c1 c2 a f m) (hs : Is16 s) (hs' : q4 = 0 ∨ s ≤ m) (r0 : 0 ≤ r) (r1 : r ≤ m) (ho : 1 ≤ o ∧ o ≤ 12) (hk : 1 ≤ k ∧ k ≤ 12) :
 ∃ x0 x1 x2 x3 x4 : Int, F_r6_Both c0 c1 c2 a f (if q4 = 0 then m else s) r m = (x0, x1, x2, x3, x4, true) ∧ PV x0 x1 x2 x3 x4 m ∧
  LF_fM_Draw [.int .i64 1, .int .i64 q1, .int .i64 q2, .int .i64 q3, .int .i64 q4, .int .i64 q5, .int .i64 q6, .int .u16 r, .int .i64 o, .int .i64 k, .bool b0, .bool b1, .int .u16 c0, .int .u16 c1, .int .u16 c2, .int .u16 a, .int .u16 f, .int .u16 s, .int .u16 m, LSV 23 1 baseC] =
   [.int .i64 0, .int .u16 x0, .int .u16 x1, .int .u16 x2, .int .u16 x3, .int .u16 x4, .int .i64 0, .int .u16 m, ST 0 (LSV 23 1 baseC) 0 (opsC (.agg baseC.toArray) ++ (acC (stepZ false o k m x0 x1 x2 x3 x4 0 0 0 0 0 0 0 0 0 0) ++ bckC (.agg baseC.toArray)))] := by
 have m1 : 1 ≤ m := by omega
 have m2 : m ≤ 65535 := by omega
 have k0 : 0 ≤ (if q4 = 0 then m else s) := by split <;> first | omega | exact hs.1
 have k1 : (if q4 = 0 then m else s) ≤ m := by
  split
  ·exact Int.le_refl m
  ·rename_i h
   exact hs'.resolve_left h
 generalize hkk : (if q4 = 0 then m else s) = kk at k0 k1 ⊢
 have q := sclV_pv m1 p k0 k1
 have q' := sclV_pv m1 q r0 r1
 have e := bothR (o := r) (p.p16 m2) (k := kk) ⟨k0, by omega⟩ ⟨r0, by omega⟩ (m := m)
 rw [if_pos ⟨hm, p.vp, k1, r1⟩] at e
 unfold sclV at e
 refine ⟨_, _, _, _, _, e, q', ?_⟩
 rw [drawV (lenOK.lit _ _) (p.p16 m2) hm hs ⟨r0, by omega⟩]
 unfold drawZ
 rw [if_neg (show ¬ ((1 : Int) ≠ 1 ∨ ¬ VP c0 c1 c2 a f m) from fun h => h.elim (fun e => e rfl) (fun e => e p.vp)), hkk, e]
 have st := base_step (o := o) (k := k) hm ho hk q'
 generalize scl (scl c0 kk m) r m = x0 at st ⊢
 generalize scl (scl c1 kk m) r m = x1 at st ⊢
 generalize scl (scl c2 kk m) r m = x2 at st ⊢
 generalize scl (scl a kk m) r m = x3 at st ⊢
 generalize scl (scl f kk m) r m = x4 at st ⊢
 have l : LN (LSV 23 1 baseC) - 1 = 0 := by rw [LN_LSV]; rfl
 have bx := base_ix
 rw [l] at bx ⊢
 have y : (stepZ false o k m x0 x1 x2 x3 x4 0 0 0 0 0 0 0 0 0 0).2.2.2.2.2.2 = true := by unfold stepZ; rw [if_neg (by decide)]
 simp only [Bool.not_true, cond_false, bx, st, y]
theorem awake22 : F_law22_awake = true := by
 have p : PV 9 0 0 10 20 255 := ⟨by decide, by decide, by decide, by decide, by decide, by decide, by decide, by decide⟩
 obtain ⟨x0, x1, x2, x3, x4, hb, hp, hd⟩ := draw_first (q1 := 0) (q2 := 0) (q3 := 0) (q4 := 0) (q5 := 0) (q6 := 0) (r := 255) (o := 4) (k := 1) (b0 := false) (b1 := false) (s := 0) (.inl rfl) p ⟨by decide, by decide⟩ (.inl rfl) (by decide) (by decide) (by decide) (by decide)
 rw [if_pos rfl, bothR (p.p16 (by decide)) ⟨by decide, by decide⟩ ⟨by decide, by decide⟩, if_pos ⟨.inl rfl, p.vp, by decide, by decide⟩] at hb
 simp only [sclV, scl_full (show (1 : Int) ≤ 255 by decide), Prod.mk.injEq, and_true] at hb
 obtain ⟨rfl, rfl, rfl, rfl, rfl⟩ := hb
 rw [step22 (.inl rfl) p] at hd
 generalize hL1 : ST 0 (LSV 23 1 baseC) 0 (opsC (.agg baseC.toArray) ++ (acC (9, 0, 0, 10, 10, 20, true) ++ bckC (.agg baseC.toArray))) = L1 at hd
 have len1 : LN L1 = 1 := by rw [← hL1, LN_ST, LN_LSV]; rfl
 have k1 : lenOK L1 = true := lenOK.of (by omega) (by omega)
 have ix1 : IX L1 0 = .agg (opsC (.agg baseC.toArray) ++ (acC (9, 0, 0, 10, 10, 20, true) ++ bckC (.agg baseC.toArray))).toArray := by
  rw [← hL1, IX_ST_same (by decide) (by rw [LN_LSV]; decide), LSV1 (show baseC.length = 23 from rfl)]
  rfl
 have q0 : pre_fM_Draw [.int .i64 1, .int .i64 0, .int .i64 0, .int .i64 0, .int .i64 0, .int .i64 0, .int .i64 0, .int .u16 255, .int .i64 4, .int .i64 1, .bool false, .bool false, .int .u16 9, .int .u16 0, .int .u16 0, .int .u16 10, .int .u16 20, .int .u16 0, .int .u16 255, LSV 23 1 baseC] = true := lenOK.lit _ _
 have q1 : pre_fM_Push [.int .i64 2, .int .i64 0, .int .i64 0, .int .i64 0, .int .i64 0, .int .i64 0, .int .i64 0, .int .u16 255, .int .i64 4, .int .i64 1, .bool false, .bool false, .int .u16 255, L1] = true := k1
 have q2 : pre_fM_top [PK [.int .u16 255, L1]] = true := k1
 have tp : F_fM_top (PK [.int .u16 255, L1]) = (2, 0, 0, 0, 0, 0, 0, 0, 0, 0, true, false, 9, 0, 0, 10, 10, 20, 0, 0, 0, 0, 0) := by
  rw [F_fM_top_eq]
  have e : CV (PK [.int .u16 255, L1]) 1 = L1 := rfl
  rw [e, lenOK.last k1, lenOK.sub k1, len1, show (1 : Int) - 1 = 0 by decide, ix1]
  rfl
 have dp : F_fM_Depth (PK [.int .u16 255, L1]) = 0 := by
  rw [F_fM_Depth_eq]
  exact (lenOK.sub k1).trans (by omega)
 have bg : F_group_Begin false false 9 0 0 10 10 20 0 0 0 0 0 = (9, 0, 0, 10, 0, 0, 9, 0, 0, 10, 10) := by
  rw [F_group_Begin_eq]
  rfl
 have q3 : ∀ vs, pre_fM_Depth vs = true := fun _ => rfl
 have pu : ∃ L2, LF_fM_Push [.int .i64 2, .int .i64 0, .int .i64 0, .int .i64 0, .int .i64 0, .int .i64 0, .int .i64 0, .int .u16 255, .int .i64 4, .int .i64 1, .bool false, .bool false, .int .u16 255, L1] = [.int .i64 0, .int .i64 0, .int .u16 255, L2] ∧ LN L2 = 2 ∧ IX L2 1 = .agg #[.int .i64 2, .int .i64 0, .int .i64 0, .int .i64 0, .int .i64 0, .int .i64 0, .int .i64 0, .int .u16 255, .int .i64 4, .int .i64 1, .bool false, .bool false, .int .u16 9, .int .u16 0, .int .u16 0, .int .u16 10, .int .u16 0, .int .u16 0, .int .u16 9, .int .u16 0, .int .u16 0, .int .u16 10, .int .u16 10] := by
  rw [LF_fM_Push_eq]
  unfold OUT_fM_Push
  simp only [q2, q3, dp, tp, bg, lenOK.push k1, cond_true, bne_self_eq_false, cond_false]
  rw [decide_eq_false (show ¬ (0 : Int) ≥ 64 by decide), cond_false]
  refine ⟨_, rfl, by rw [LN_CT, LN_LSV, len1]; rfl, ?_⟩
  rw [CT_LSV1 (k := 23) (by rfl)]
  have := IX_SN_last L1
  rw [len1] at this
  rw [this]
 obtain ⟨L2, hpu, len2, ix2⟩ := pu
 have k2 : lenOK L2 = true := lenOK.of (by omega) (by omega)
 have q4 : pre_fM_Acc [PK [.int .u16 255, L2]] = true := k2
 have q5 : pre_fM_top [PK [.int .u16 255, L2]] = true := k2
 have dp2 : F_fM_Depth (PK [.int .u16 255, L2]) = 1 := by
  rw [F_fM_Depth_eq]
  exact (lenOK.sub k2).trans (by omega)
 have ac : F_fM_Acc (PK [.int .u16 255, L2]) = (9, 0, 0, 10, 0, 0) := by
  rw [F_fM_Acc_eq, q5, cond_true, F_fM_top_eq]
  have e : CV (PK [.int .u16 255, L2]) 1 = L2 := rfl
  rw [e, lenOK.last k2, lenOK.sub k2, len2, show (2 : Int) - 1 = 1 by decide, ix2]
  rfl
 rw [F_law22_awake_eq]
 change (bif pre_fM_Draw [.int .i64 1, .int .i64 0, .int .i64 0, .int .i64 0, .int .i64 0, .int .i64 0, .int .i64 0, .int .u16 255, .int .i64 4, .int .i64 1, .bool false, .bool false, .int .u16 9, .int .u16 0, .int .u16 0, .int .u16 10, .int .u16 20, .int .u16 0, .int .u16 255, LSV 23 1 baseC] then _ else _) = true
 rw [q0, cond_true]
 unfold baseC at hd
 simp only [hd, List.getD_cons_succ, List.getD_cons_zero, num_int, q1, hpu, q4, q3, dp2, ac, cond_true]
 rfl
end Go.Proofs.YtdioaiepkhepaaaGreatDoor
