/- Rows that are rejected: the statement SpanRejects as a plain law. -/
import Derived.Test.YtfjhhadmncjdiaaGreatDoorSm16z
namespace Go.Proofs.YtfjhhadmncjdiaaGreatDoor
set_option maxRecDepth 100000
open Go.RowKit

/-! Scaling by the reference. -/
section
variable {c0 c1 c2 a f k m : Int} (hm : m = 255 ∨ m = 65535) (p : PV c0 c1 c2 a f m) (k0 : 0 ≤ k) (k1 : k ≤ m)
include hm p k0 k1
theorem refLoop : LF_ref06_Scale_5 [.int .u16 k, .int .u16 m, .int .i64 0, .int .u16 c0, .int .u16 c1, .int .u16 c2, .int .u16 a, .int .u16 f, .int .u16 0, .int .u16 0, .int .u16 0, .int .u16 0, .int .u16 0, .int .u16 0, .int .u16 0, .int .u16 0, .int .u16 0, .int .u16 0] =
    [.int .i64 0, .int .u16 k, .int .u16 m, .int .u16 c0, .int .u16 c1, .int .u16 c2, .int .u16 a, .int .u16 f, .int .u16 0, .int .u16 0, .int .u16 0, .int .u16 0, .int .u16 0, .int .u16 (scl c0 k m), .int .u16 (scl c1 k m), .int .u16 (scl c2 k m), .int .u16 0, .int .u16 0] := by
  obtain ⟨l0, l1, l2, u0, u1, u2, af, fm⟩ := p
  have one : ∀ x, 0 ≤ x → x ≤ m → IntKind.u16.wrap (F_ref01_Half (IntKind.u64.wrap (x * k)) m) = scl x k m := fun x x0 x1 => by
    have y0 := Int.mul_nonneg x0 k0
    have y1 : x * k ≤ m * m := Int.mul_le_mul x1 k1 k0 (by omega)
    have bd := scl_bd (show 1 ≤ m by omega) x0 k0 k1
    have y2 : x * k ≤ 4294836225 := by rcases hm with rfl | rfl <;> omega
    rw [IntWalk.u64_in _ ⟨y0, by omega⟩, rHalf y0 (by omega) (by omega) (by omega)]
    exact u16_in bd.1 (Int.le_trans bd.2 (by omega))
  have o0 := one c0 l0 (by omega)
  have o1 := one c1 l1 (by omega)
  have o2 := one c2 l2 (by omega)
  have w0 : IntKind.i64.wrap (0 + 1) = 1 := by decide
  have w1 : IntKind.i64.wrap (1 + 1) = 2 := by decide
  have w2 : IntKind.i64.wrap (2 + 1) = 3 := by decide
  rw [LF_ref06_Scale_5_go]
  unfold OUT_ref06_Scale_5
  simp only [Int.reduceLT, decide_true, Int.reduceBEq, cond_true, cond_false, goOn_next, w0, o0]
  rw [LF_ref06_Scale_5_go]
  unfold OUT_ref06_Scale_5
  simp only [Int.reduceLT, decide_true, Int.reduceBEq, cond_true, cond_false, goOn_next, w1, o1]
  rw [LF_ref06_Scale_5_go]
  unfold OUT_ref06_Scale_5
  simp only [Int.reduceLT, decide_true, Int.reduceBEq, cond_true, cond_false, goOn_next, w2, o2]
  rw [LF_ref06_Scale_5_go]
  unfold OUT_ref06_Scale_5
  rfl
end
theorem rScale {c0 c1 c2 a f k m : Int} (p : P16 c0 c1 c2 a f) (hk : Is16 k) : F_ref06_Scale c0 c1 c2 a f k m = if (m = 255 ∨ m = 65535) ∧ VP c0 c1 c2 a f m ∧ k ≤ m then sclV c0 c1 c2 a f k m else (0, 0, 0, 0, 0, false) := by
  rw [F_ref06_Scale_eq]
  have pre : ∀ x y z u v w t, pre_ref06_Scale_5 [x, y, .int .i64 0, z, u, v, w, t, .int .u16 0, .int .u16 0, .int .u16 0, .int .u16 0, .int .u16 0, .int .u16 0, .int .u16 0, .int .u16 0, .int .u16 0, .int .u16 0] = true := fun _ _ _ _ _ _ _ => rfl
  simp only [pre, cond_true, rValidP, full_dec]
  by_cases hm : m = 255 ∨ m = 65535
  · by_cases hv : VP c0 c1 c2 a f m
    · by_cases hk1 : k ≤ m
      · have pv := p.pv hv
        rw [if_pos ⟨hm, hv, hk1⟩, refLoop hm pv hk.1 hk1]
        have one : ∀ x, 0 ≤ x → x ≤ m → IntKind.u16.wrap (F_ref01_Half (IntKind.u64.wrap (x * k)) m) = scl x k m := fun x x0 x1 => by
          have y0 := Int.mul_nonneg x0 hk.1
          have y1 : x * k ≤ m * m := Int.mul_le_mul x1 hk1 hk.1 (by omega)
          have bd := scl_bd (show 1 ≤ m by omega) x0 hk.1 hk1
          have y2 : x * k ≤ 4294836225 := by rcases hm with rfl | rfl <;> omega
          rw [IntWalk.u64_in _ ⟨y0, by omega⟩, rHalf y0 (by omega) (by omega) (by omega)]
          exact u16_in bd.1 (Int.le_trans bd.2 (by omega))
        have b1 := p.a.1
        have b2 := p.f.1
        have b3 := hv.2.2.2
        simp only [decide_eq_true hm, decide_eq_true hv, decide_eq_false (show ¬ k > m by omega), Bool.not_true, cond_false, List.getD_cons_succ, List.getD_cons_zero, num_int]
        rw [one a b1 (by omega), one f b2 (by omega)]
        rfl
      · rw [if_neg (fun h => hk1 h.2.2)]
        simp only [decide_eq_true hm, decide_eq_true hv, decide_eq_true (show k > m by omega), Bool.not_true, cond_false, cond_true]
    · rw [if_neg (fun h => hv h.2.1)]
      simp only [decide_eq_true hm, decide_eq_false hv, Bool.not_true, Bool.not_false, cond_true, cond_false]
  · rw [if_neg (fun h => hm h.1)]
    simp only [decide_eq_false hm, Bool.not_false, cond_true]
/-- Both scalings agree, for all samples of 16 bits. -/
theorem scales {c0 c1 c2 a f k m : Int} (p : P16 c0 c1 c2 a f) (hk : Is16 k) : F_scale_Pixel c0 c1 c2 a f k m = F_ref06_Scale c0 c1 c2 a f k m := by rw [pScale p hk, rScale p hk]
theorem bothR {c0 c1 c2 a f k o m : Int} (p : P16 c0 c1 c2 a f) (hk : Is16 k) (ho : Is16 o) : F_ref06_Both c0 c1 c2 a f k o m =
    if (m = 255 ∨ m = 65535) ∧ VP c0 c1 c2 a f m ∧ k ≤ m ∧ o ≤ m then sclV (scl c0 k m) (scl c1 k m) (scl c2 k m) (scl a k m) (scl f k m) o m else (0, 0, 0, 0, 0, false) := by
  rw [F_ref06_Both_eq, rScale p hk]
  by_cases h : (m = 255 ∨ m = 65535) ∧ VP c0 c1 c2 a f m ∧ k ≤ m
  · have q := sclV_pv (show 1 ≤ m by omega) (p.pv h.2.1) hk.1 h.2.2
    rw [if_pos h]
    simp only [sclV, Bool.not_true, cond_false]
    rw [rScale (q.p16 (by omega)) ho]
    by_cases h2 : o ≤ m
    · rw [if_pos ⟨h.1, q.vp, h2⟩, if_pos ⟨h.1, h.2.1, h.2.2, h2⟩]
      rfl
    · rw [if_neg (fun e => h2 e.2.2), if_neg (fun e => h2 e.2.2.2)]
  · rw [if_neg h, if_neg (fun e => h ⟨e.1, e.2.1, e.2.2.1⟩)]
    rfl
theorem boths {c0 c1 c2 a f k o m : Int} (p : P16 c0 c1 c2 a f) (hk : Is16 k) (ho : Is16 o) : F_scale_Both c0 c1 c2 a f k o m = F_ref06_Both c0 c1 c2 a f k o m := by
  rw [F_scale_Both_eq, F_ref06_Both_eq, scales p hk, rScale p hk]
  by_cases h : (m = 255 ∨ m = 65535) ∧ VP c0 c1 c2 a f m ∧ k ≤ m
  · have q := sclV_pv (show 1 ≤ m by omega) (p.pv h.2.1) hk.1 h.2.2
    rw [if_pos h]
    simp only [sclV, Bool.not_true, cond_false]
    rw [scales (q.p16 (by omega)) ho]
  · rw [if_neg h]
    simp only [Bool.not_false, cond_true]
/-- Without a mask the full sample is as none. -/
theorem both_full {c0 c1 c2 a f o m : Int} (p : P16 c0 c1 c2 a f) (hm : m = 255 ∨ m = 65535) (ho : Is16 o) : F_scale_Pixel c0 c1 c2 a f o m = F_ref06_Both c0 c1 c2 a f m o m := by
  rw [pScale p ho, bothR p ⟨by omega, by omega⟩ ho]
  have m1 : 1 ≤ m := by omega
  by_cases h : VP c0 c1 c2 a f m ∧ o ≤ m
  · rw [if_pos ⟨hm, h.1, h.2⟩, if_pos ⟨hm, h.1, Int.le_refl m, h.2⟩]
    unfold sclV
    rw [scl_full m1, scl_full m1, scl_full m1, scl_full m1, scl_full m1]
  · rw [if_neg (fun e => h e.2), if_neg (fun e => h ⟨e.2.1, e.2.2.2⟩)]

/-! Rows by the reference. -/
theorem px_16 {l : Value} (h : inKind (.l PX) l) {i : Int} (h0 : 0 ≤ i) (h1 : i < LN l) : P16 (C1 (IX l i)) (C2 (IX l i)) (C3 (IX l i)) (C4 (IX l i)) (C5 (IX l i)) := (px_at h h0 h1).2
section
variable {s d : Value} (hs : inKind (.l PX) s) (hd : inKind (.l PX) d) (hn : LN d = LN s) (hb : LN s ≤ 1000) (o k : Int) {m : Int} (m1 : Is16 m)
include hs hd hn hb m1
theorem crow_loop : ∀ i, 0 ≤ i → i ≤ LN s → LF_ref13_CompositeRow_5 [.int .i64 o, .int .i64 k, .int .u16 m, s, d, .int .i64 i, bld (fun j => pk6 (cmp2 o k m (IX s j) (IX d j))) 0 i NILV] =
      bif allI (fun j => (cmp2 o k m (IX s j) (IX d j)).2.2.2.2.2) i (LN s) then [.int .i64 1, bld (fun j => pk6 (cmp2 o k m (IX s j) (IX d j))) 0 (LN s) NILV] else [.int .i64 0, .bool false, NILV] :=
  up_to (fun i h0 h1 ih => by
    rw [LF_ref13_CompositeRow_5_go]
    unfold OUT_ref13_CompositeRow_5
    have ro : ∀ cs, RO 10 (SN (bld (fun j => pk6 (cmp2 o k m (IX s j) (IX d j))) 0 i NILV) cs) = true := fun cs => RO_of (n := 1001) (by rw [LN_SN, LN_bld0 h0]; omega) (by decide) (by decide)
    have w1 : IntKind.i64.wrap (i + 1) = i + 1 := i64_in (by omega) (by omega)
    have pc : F_ref06_Composite o k m (num (CV (IX s i) 0)) (num (CV (IX s i) 1)) (num (CV (IX s i) 2)) (num (CV (IX s i) 3)) (num (CV (IX s i) 4)) (num (CV (IX d i) 0)) (num (CV (IX d i) 1)) (num (CV (IX d i) 2)) (num (CV (IX d i) 3)) (num (CV (IX d i) 4)) = cmp2 o k m (IX s i) (IX d i) := (comps m1 (px_16 hs h0 h1) (px_16 hd h0 (by omega))).symm
    have main : goOn LF_ref13_CompositeRow_5 (bif !(cmp2 o k m (IX s i) (IX d i)).2.2.2.2.2 then [.int .i64 0, .bool false, NILV] else [.int .i64 (-1), .int .i64 o, .int .i64 k, .int .u16 m, s, d, .int .i64 (i + 1), SN (bld (fun j => pk6 (cmp2 o k m (IX s j) (IX d j))) 0 i NILV) (pk6 (cmp2 o k m (IX s i) (IX d i)))]) =
        bif allI (fun j => (cmp2 o k m (IX s j) (IX d j)).2.2.2.2.2) i (LN s) then [.int .i64 1, bld (fun j => pk6 (cmp2 o k m (IX s j) (IX d j))) 0 (LN s) NILV] else [.int .i64 0, .bool false, NILV] := by
      cases hc : (cmp2 o k m (IX s i) (IX d i)).2.2.2.2.2
      · simp only [Bool.not_false, cond_true, allI_step h1, hc, Bool.false_and, cond_false]
        rfl
      · simp only [Bool.not_true, cond_false, goOn_next, bld_snoc (g := fun j => pk6 (cmp2 o k m (IX s j) (IX d j))) h0, ih, allI_step h1, hc, Bool.true_and]
    simp only [w1, INB_of (l := s) h0 h1, INB_of (l := d) h0 (show i < LN d by omega), ro, decide_eq_true h1, cond_true, pc]
    exact main) (by
    rw [LF_ref13_CompositeRow_5_go]
    unfold OUT_ref13_CompositeRow_5
    rw [decide_eq_false (by omega), allI_end (Int.le_refl _)]
    rfl)
theorem crow : F_ref13_CompositeRow o k m s d = F_span_Composite o k m s d := by
  rw [spanC hs hd hn hb, F_ref13_CompositeRow_eq, hn, bne_self_eq_false, cond_false, crow_start hb hn.symm, cond_true]
  have q := crow_loop hs hd hn hb o k m1 0 (Int.le_refl 0) (LN_nonneg s)
  rw [show bld (fun j => pk6 (cmp2 o k m (IX s j) (IX d j))) 0 0 NILV = NILV from rfl] at q
  rw [q]
  cases allI (fun j => (cmp2 o k m (IX s j) (IX d j)).2.2.2.2.2) 0 (LN s) <;> rfl
end
section
variable {l : Value} (hl : inKind (.l PX) l) (hb : LN l ≤ 1000) {o m : Int} (o1 : Is16 o) (m1 : Is16 m)
include hl hb o1 m1
theorem srow_loop : ∀ i, 0 ≤ i → i ≤ LN l → LF_ref13_ScaleRow_5 [l, NILV, .int .u16 o, .int .u16 m, .int .i64 i, bld (fun j => pk6 (sclAt l NILV o m j)) 0 i NILV] =
      bif allI (fun j => (sclAt l NILV o m j).2.2.2.2.2) i (LN l) then [.int .i64 1, bld (fun j => pk6 (sclAt l NILV o m j)) 0 (LN l) NILV] else [.int .i64 0, .bool false, NILV] :=
  up_to (fun i h0 h1 ih => by
    rw [LF_ref13_ScaleRow_5_go]
    unfold OUT_ref13_ScaleRow_5
    have ro : ∀ cs, RO 10 (SN (bld (fun j => pk6 (sclAt l NILV o m j)) 0 i NILV) cs) = true := fun cs => RO_of (n := 1001) (by rw [LN_SN, LN_bld0 h0]; omega) (by decide) (by decide)
    have w1 : IntKind.i64.wrap (i + 1) = i + 1 := i64_in (by omega) (by omega)
    have pc : F_ref06_Both (num (CV (IX l i) 0)) (num (CV (IX l i) 1)) (num (CV (IX l i) 2)) (num (CV (IX l i) 3)) (num (CV (IX l i) 4)) m o m = sclAt l NILV o m i := (boths (px_16 hl h0 h1) m1 o1).symm
    have main : goOn LF_ref13_ScaleRow_5 (bif !(sclAt l NILV o m i).2.2.2.2.2 then [.int .i64 0, .bool false, NILV] else [.int .i64 (-1), l, NILV, .int .u16 o, .int .u16 m, .int .i64 (i + 1), SN (bld (fun j => pk6 (sclAt l NILV o m j)) 0 i NILV) (pk6 (sclAt l NILV o m i))]) =
        bif allI (fun j => (sclAt l NILV o m j).2.2.2.2.2) i (LN l) then [.int .i64 1, bld (fun j => pk6 (sclAt l NILV o m j)) 0 (LN l) NILV] else [.int .i64 0, .bool false, NILV] := by
      cases hc : (sclAt l NILV o m i).2.2.2.2.2
      · simp only [Bool.not_false, cond_true, allI_step h1, hc, Bool.false_and, cond_false]
        rfl
      · simp only [Bool.not_true, cond_false, goOn_next, bld_snoc (g := fun j => pk6 (sclAt l NILV o m j)) h0, ih, allI_step h1, hc, Bool.true_and]
    simp only [w1, INB_of (l := l) h0 h1, ro, decide_eq_true h1, show decide (LN NILV > 0) = false from rfl, cond_true, cond_false, pc]
    exact main) (by
    rw [LF_ref13_ScaleRow_5_go]
    unfold OUT_ref13_ScaleRow_5
    rw [decide_eq_false (by omega), allI_end (Int.le_refl _)]
    rfl)
theorem srow : F_ref13_ScaleRow l NILV o m = F_span_Scale l NILV o m := by
  rw [spanS (.inl LN_nil) hb, F_ref13_ScaleRow_eq, show decide (LN NILV > 0) = false from rfl, cond_false, srow_start hb (.inl LN_nil), cond_true]
  have q := srow_loop hl hb o1 m1 0 (Int.le_refl 0) (LN_nonneg l)
  rw [show bld (fun j => pk6 (sclAt l NILV o m j)) 0 0 NILV = NILV from rfl] at q
  rw [q]
  cases allI (fun j => (sclAt l NILV o m j).2.2.2.2.2) 0 (LN l) <;> rfl
end
/-- A row is the same as itself. -/
theorem same_loop {x : Value} (hx : LN x ≤ 1000) : ∀ i, 0 ≤ i → i ≤ LN x → LF_ref13_SamePixels_4 [x, x, .int .i64 i] = [.int .i64 1] :=
  up_to (fun i h0 h1 ih => by
    rw [LF_ref13_SamePixels_4_go]
    unfold OUT_ref13_SamePixels_4
    have w1 : IntKind.i64.wrap (i + 1) = i + 1 := i64_in (by omega) (by omega)
    simp only [w1, INB_of (l := x) h0 h1, decide_eq_true h1, beq_self_eq_true, Bool.and_self, Bool.not_true, cond_true, cond_false, goOn_next, ih]) (by
    rw [LF_ref13_SamePixels_4_go]
    unfold OUT_ref13_SamePixels_4
    rw [decide_eq_false (by omega)]
    rfl)
theorem same_refl {x : Value} (hx : LN x ≤ 1000) : F_ref13_SamePixels x x = true := by
  rw [F_ref13_SamePixels_eq, bne_self_eq_false, cond_false, same_start rfl, cond_true, same_loop hx 0 (Int.le_refl 0) (LN_nonneg x)]
  rfl
theorem LN_RP {zs : List Value} {n : Int} (h : 0 ≤ n) : LN (RP zs n) = n := by
  simp only [LN, RP, els_toArray, List.length_replicate]
  omega
theorem span_len {o k m : Int} {s d : Value} (h : LN s ≠ LN d) : F_span_Composite o k m s d = (NILV, false) := by
  rw [F_span_Composite_eq, show (LN s != LN d) = true from bne_iff_ne.2 h]
  rfl
theorem fst_le {q : Bool} {x : Value} (h : LN x ≤ 1000) : LN (bif q then (x, true) else (NILV, false)).1 ≤ 1000 := by
  cases q
  · show LN NILV ≤ 1000
    rw [LN_nil]
    decide
  · exact h
set_option maxHeartbeats 1000000 in
theorem spanRejects (p0 p1 p2 : Int) (p3 : Value) (p4 : Int) (p5 : Value) (p6 p7 p8 : Int) {p9 p10 p11 p12 p13 : Int} (b : P16 p9 p10 p11 p12 p13) : F_law16_SpanRejects p0 p1 p2 p3 p4 p5 p6 p7 p8 p9 p10 p11 p12 p13 = true := by
  have hm := mMax p8
  rw [F_law16_SpanRejects_eq]
  dsimp only
  generalize F_gen_Max p8 = m at hm ⊢
  have m1 : Is16 m := ⟨hm.2.1, hm.2.2⟩
  obtain ⟨c, c1, c8, e1, e2, e3, ⟨g1, g2⟩, ⟨g3, g4⟩, g5, g6⟩ := rej_pres (p2 := p2) (p3 := p3) (p4 := p4) (p5 := p5) (p6 := p6) (p7 := p7) hm.2.1 hm.2.2
  simp only [e1, e2, e3, pre_pixels (show c ≤ 1000 by omega) (show 0 ≤ c by omega), cond_true, TKB_of (l := F_gen_Pixels p4 p5 c m) (h := c - 1) (by omega) (by omega)]
  generalize F_gen_Pixels p4 p5 c m = d at g1 g2 ⊢
  generalize F_gen_Pixels p2 p3 c m = s at g3 g4 ⊢
  generalize F_gen_Mod p7 c = i at g5 g6 ⊢
  generalize F_gen_Mod p0 14 = o
  generalize F_gen_Mod p1 14 = k
  have l1 : LN (TK d (c - 1)) = c - 1 := LN_TK (by omega) (by omega)
  have mk : MKB 2 (c + 1) (c + 1) = true := by
    simp only [MKB, Bool.and_eq_true, decide_eq_true_eq]
    omega
  have ls : LN (ST 0 s i [.int .u16 p9, .int .u16 p10, .int .u16 p11, .int .u16 p12, .int .u16 p13]) = c := by rw [LN_ST]; exact g4
  have ks : inKind (.l PX) (ST 0 s i [.int .u16 p9, .int .u16 p10, .int .u16 p11, .int .u16 p12, .int .u16 p13]) := kind_ST g3.1 g5 (by omega) (kinds_px b) (Nat.le_refl 5)
  simp only [pre_comp (show LN s ≤ 1000 by omega) (show LN (TK d (c - 1)) ≤ 1000 by omega), mk, pre_scal (show LN s ≤ 1000 by omega), INB_of (l := s) g5 (by omega), cond_true]
  generalize ST 0 s i [.int .u16 p9, .int .u16 p10, .int .u16 p11, .int .u16 p12, .int .u16 p13] = t at ls ks ⊢
  have r1 : pre_ref13_CompositeRow [.int .i64 o, .int .i64 k, .int .u16 m, t, d] = true := decide_eq_true (show LN t ≤ 1000 by omega)
  have r2 : pre_ref13_ScaleRow [t, NILV, .int .u16 3, .int .u16 m] = true := decide_eq_true (show LN t ≤ 1000 by omega)
  have x1 : F_span_Composite o k m s (TK d (c - 1)) = (NILV, false) := span_len (by omega)
  have x2 : F_span_Scale s (RP [.int .u16 0] (c + 1)) 0 m = (NILV, false) := spanS_rej (by rw [LN_RP (by omega)]; omega) (by rw [LN_RP (by omega)]; omega) 0 m
  have x3 := crow (o := o) (k := k) ks g1.1 (by omega) (by omega) m1
  have x4 := srow (o := 3) ks (by omega) ⟨by decide, by decide⟩ m1
  have y3 : LN (F_span_Composite o k m t d).1 ≤ 1000 := by
    rw [spanC ks g1.1 (by omega) (by omega)]
    exact fst_le (by rw [LN_bld0 (LN_nonneg _)]; omega)
  have y4 : LN (F_span_Scale t NILV 3 m).1 ≤ 1000 := by
    rw [spanS (.inl LN_nil) (by omega)]
    exact fst_le (by rw [LN_bld0 (LN_nonneg _)]; omega)
  simp only [pre_comp (show LN t ≤ 1000 by omega) (show LN d ≤ 1000 by omega), r1, r2, pre_scal (show LN t ≤ 1000 by omega), cond_true, awake16, x1, x2, x3, x4, LN_nil, beq_self_eq_true, Bool.not_false, same_refl y3, same_refl y4]
end Go.Proofs.YtfjhhadmncjdiaaGreatDoor
