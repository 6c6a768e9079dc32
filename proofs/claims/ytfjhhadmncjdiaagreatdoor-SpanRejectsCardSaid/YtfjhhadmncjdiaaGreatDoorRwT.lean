/- Scaling, rows of steps and results, in closed form. No condition. -/
import Derived.Test.YtfjhhadmncjdiaaGreatDoorSm16a
import Derived.Test.YtfjhhadmncjdiaaGreatDoorPix
import Derived.Shelf.Spec.TrailingZeros
import Derived.Laws.Bits64b
import Derived.Test.YtfjhhadmncjdiaaGreatDoorScl
import Derived.Test.YtfjhhadmncjdiaaGreatDoorRwM
import Derived.Test.YtfjhhadmncjdiaaGreatDoorGrp

/- Rows of pixels: scaled rows, rows of steps and of results, in closed form. No condition. -/
namespace Go.Proofs.YtfjhhadmncjdiaaGreatDoor
set_option maxRecDepth 100000
open Go.RowKit

noncomputable def sclAt (l k : Value) (o m : Int) (j : Int) : Int × Int × Int × Int × Int × Bool := F_scale_Both (C1 (IX l j)) (C2 (IX l j)) (C3 (IX l j)) (C4 (IX l j)) (C5 (IX l j)) (bif decide (LN k > 0) then C1 (IX k j) else m) o m
section
variable {l k : Value} (hk : LN k = 0 ∨ LN k = LN l) (hb : LN l ≤ 1000) (o m : Int)
include hk hb
theorem scale_loop : ∀ i, 0 ≤ i → i ≤ LN l → LF_span_Scale_5 [k, .int .u16 o, .int .u16 m, l, .int .i64 (LN l), .int .i64 i, bld (fun j => pk6 (sclAt l k o m j)) 0 i NILV] =
      bif allI (fun j => (sclAt l k o m j).2.2.2.2.2) i (LN l) then [.int .i64 1, bld (fun j => pk6 (sclAt l k o m j)) 0 (LN l) NILV] else [.int .i64 0, .bool false, NILV] :=
  up_to (fun i h0 h1 ih => by
    rw [LF_span_Scale_5_go]
    unfold OUT_span_Scale_5
    have ro : ∀ cs, RO 10 (SN (bld (fun j => pk6 (sclAt l k o m j)) 0 i NILV) cs) = true := fun cs => RO_of (n := 1001) (by rw [LN_SN, LN_bld0 h0]; omega) (by decide) (by decide)
    have w1 : IntKind.i64.wrap (i + 1) = i + 1 := i64_in (by omega) (by omega)
    have s0 : INB l i = true := INB_of h0 h1
    have main : goOn LF_span_Scale_5 (bif !(sclAt l k o m i).2.2.2.2.2 then [.int .i64 0, .bool false, NILV] else [.int .i64 (-1), k, .int .u16 o, .int .u16 m, l, .int .i64 (LN l), .int .i64 (i + 1), SN (bld (fun j => pk6 (sclAt l k o m j)) 0 i NILV) (pk6 (sclAt l k o m i))]) =
        bif allI (fun j => (sclAt l k o m j).2.2.2.2.2) i (LN l) then [.int .i64 1, bld (fun j => pk6 (sclAt l k o m j)) 0 (LN l) NILV] else [.int .i64 0, .bool false, NILV] := by
      cases hc : (sclAt l k o m i).2.2.2.2.2
      · simp only [Bool.not_false, cond_true, allI_step h1, hc, Bool.false_and, cond_false]
        rfl
      · simp only [Bool.not_true, cond_false, goOn_next, bld_snoc (g := fun j => pk6 (sclAt l k o m j)) h0, ih, allI_step h1, hc, Bool.true_and]
    simp only [w1, s0, ro, decide_eq_true h1, cond_true]
    by_cases hL : LN k > 0
    · have k0 : INB k i = true := INB_of h0 (by omega)
      simp only [decide_eq_true hL, k0, cond_true]
      unfold sclAt at main ⊢
      simp only [decide_eq_true hL, cond_true] at main ⊢
      exact main
    · simp only [decide_eq_false hL, cond_false]
      unfold sclAt at main ⊢
      simp only [decide_eq_false hL, cond_false] at main ⊢
      exact main) (by
    rw [LF_span_Scale_5_go]
    unfold OUT_span_Scale_5
    rw [decide_eq_false (by omega), allI_end (Int.le_refl _)]
    rfl)
theorem spanS : F_span_Scale l k o m = bif allI (fun j => (sclAt l k o m j).2.2.2.2.2) 0 (LN l) then (bld (fun j => pk6 (sclAt l k o m j)) 0 (LN l) NILV, true) else (NILV, false) := by
  have h0 := LN_nonneg l
  have p : pre_span_Scale_5 [k, .int .u16 o, .int .u16 m, l, .int .i64 (LN l), .int .i64 0, NILV] = true := by
    show (decide (LN l = LN l) && decide (LN k = 0 ∨ LN k = LN l) && decide ((0 : Int) ≤ 0) && decide (0 ≤ LN l) && decide (LN NILV = 0) && decide (LN l ≤ 1000)) = true
    simp only [Bool.and_eq_true, decide_eq_true_eq]
    exact ⟨⟨⟨⟨⟨trivial, hk⟩, Int.le_refl 0⟩, h0⟩, LN_nil⟩, hb⟩
  have q := scale_loop hk hb o m 0 (Int.le_refl 0) h0
  rw [show bld (fun j => pk6 (sclAt l k o m j)) 0 0 NILV = NILV from rfl] at q
  rw [F_span_Scale_eq, p, cond_true, q]
  by_cases hz : LN k = 0
  · rw [hz]
    simp only [bne_self_eq_false, cond_false]
    cases allI (fun j => (sclAt l k o m j).2.2.2.2.2) 0 (LN l) <;> rfl
  · have e : LN k = LN l := by omega
    have hz' : (LN k != 0) = true := by simpa using hz
    rw [hz', e]
    simp only [bne_self_eq_false, cond_false, cond_true]
    cases allI (fun j => (sclAt l k o m j).2.2.2.2.2) 0 (LN l) <;> rfl
end
theorem spanS_rej {l k : Value} (h1 : LN k ≠ 0) (h2 : LN k ≠ LN l) (o m : Int) : F_span_Scale l k o m = (NILV, false) := by
  have e1 : (LN k != 0) = true := by simpa using h1
  have e2 : (LN k != LN l) = true := by simpa using h2
  rw [F_span_Scale_eq, e1, e2]
  rfl
/-- A valid row, samples up to m: every pixel is scaled. -/
theorem sclAt_ok {l k : Value} {o m : Int} (hm : m = 255 ∨ m = 65535) (hl : VR m l) (hk : MR m k) (hk' : LN k = 0 ∨ LN k = LN l) (o0 : 0 ≤ o) (o1 : o ≤ m) {j : Int} (h0 : 0 ≤ j) (h1 : j < LN l) : (sclAt l k o m j).2.2.2.2.2 = true := by
  have p := hl.2 j h0 h1
  unfold sclAt
  by_cases hL : LN k > 0
  · have q := hk.2 j h0 (by omega)
    rw [decide_eq_true hL, cond_true, pBothV hm p q.1 q.2 o0 o1]
    rfl
  · rw [decide_eq_false hL, cond_false, pBothV hm p (by omega) (Int.le_refl m) o0 o1]
    rfl

/-! Results -/
section
variable {a b : Value} (hn : LN b = LN a) (hb : LN a ≤ 1000) (m : Int)
include hn hb
end

/-! Steps -/
def eqA (a b : Value) : Bool := ((C1 a == C1 b) && ((C2 a == C2 b) && (C3 a == C3 b))) && ((C4 a == C4 b) && ((C5 a == C5 b) && (C6 a == C6 b)))
def pk7 (x : Int × Int × Int × Int × Int × Int × Bool) : List Value := [.int .u16 x.1, .int .u16 x.2.1, .int .u16 x.2.2.1, .int .u16 x.2.2.2.1, .int .u16 x.2.2.2.2.1, .int .u16 x.2.2.2.2.2.1]
section
variable {s a b : Value} (hna : LN a = LN s) (hnb : LN b = LN s) (hb : LN s ≤ 1000) (t : Bool) (o k m : Int)
include hna hnb hb
end
end Go.Proofs.YtfjhhadmncjdiaaGreatDoor

namespace Go.Proofs.YtfjhhadmncjdiaaGreatDoor
set_option maxRecDepth 100000
open Go.RowKit

/-! Rows of accumulations and of backdrops. -/
theorem kinds_ax {a b c d e f : Int} (h : A16 a b c d e f) : KindsL AX [.int .u16 a, .int .u16 b, .int .u16 c, .int .u16 d, .int .u16 e, .int .u16 f] := by
  simp only [KindsL]
  exact ⟨_, _, rfl, kind_u16 h.c0, _, _, rfl, kind_u16 h.c1, _, _, rfl, kind_u16 h.c2, _, _, rfl, kind_u16 h.a, _, _, rfl, kind_u16 h.own, _, _, rfl, kind_u16 h.f, rfl⟩
def AWe (m : Int) (e : Value) : Prop := AW (C1 e) (C2 e) (C3 e) (C4 e) (C5 e) (C6 e) m
def AR (m : Int) (x : Value) : Prop := inKind (.l AX) x ∧ ∀ j, 0 ≤ j → j < LN x → AWe m (IX x j)
theorem AR.nil {m : Int} : AR m NILV := ⟨kind_nil, fun j h0 h1 => by rw [LN_nil] at h1; omega⟩
theorem AR.snoc {m : Int} {x : Value} (h : AR m x) (hm : m ≤ 65535) {a b c d e f : Int} (p : AW a b c d e f m) (hl : LN x < 9223372036854775807) : AR m (SN x [.int .u16 a, .int .u16 b, .int .u16 c, .int .u16 d, .int .u16 e, .int .u16 f]) := by
  refine ⟨kind_SN h.1 (kinds_ax (p.a16 hm)) hl, fun j h0 h1 => ?_⟩
  rw [LN_SN] at h1
  by_cases e : j = LN x
  · subst e
    rw [IX_SN_last]
    exact p
  · rw [IX_SN_old _ h0 (by omega)]
    exact h.2 j h0 (by omega)
def BR (m : Int) (x : Value) : Prop := VR m x ∧ ∀ j, 0 ≤ j → j < LN x → C5 (IX x j) = C4 (IX x j)
theorem BR.nil {m : Int} : BR m NILV := ⟨VR.nil, fun j h0 h1 => by rw [LN_nil] at h1; omega⟩
theorem BR.snoc {m : Int} {x : Value} (h : BR m x) (hm : m ≤ 65535) {a b c d e : Int} (p : PV a b c d d m) (he : e = d) (hl : LN x < 9223372036854775807) : BR m (SN x [.int .u16 a, .int .u16 b, .int .u16 c, .int .u16 d, .int .u16 e]) := by
  subst he
  refine ⟨h.1.snoc hm p hl, fun j h0 h1 => ?_⟩
  rw [LN_SN] at h1
  by_cases e : j = LN x
  · subst e
    rw [IX_SN_last]
    rfl
  · rw [IX_SN_old _ h0 (by omega)]
    exact h.2 j h0 (by omega)
theorem kind_LSVP {a b c d e : Int} (h : P16 a b c d e) : inKind (.l PX) (LSV 5 1 [.int .u16 a, .int .u16 b, .int .u16 c, .int .u16 d, .int .u16 e]) := by
  simp only [inKind]
  exact ⟨[.agg [.int .u16 a, .int .u16 b, .int .u16 c, .int .u16 d, .int .u16 e].toArray], rfl, by simp, fun x hx => ⟨_, by simpa using hx, kinds_px h⟩⟩
theorem pxo : P16 0 0 0 255 255 := ⟨⟨by decide, by decide⟩, ⟨by decide, by decide⟩, ⟨by decide, by decide⟩, ⟨by decide, by decide⟩, ⟨by decide, by decide⟩⟩
theorem pxz : P16 0 0 0 0 0 := ⟨⟨by decide, by decide⟩, ⟨by decide, by decide⟩, ⟨by decide, by decide⟩, ⟨by decide, by decide⟩, ⟨by decide, by decide⟩⟩
theorem awake16 : F_law16_awake = true := by
  have kd : inKind (.l PX) (LSV 5 2 [.int .u16 0, .int .u16 0, .int .u16 0, .int .u16 255, .int .u16 255, .int .u16 0, .int .u16 0, .int .u16 0, .int .u16 255, .int .u16 255]) := by
    simp only [inKind]
    exact ⟨[.agg [.int .u16 0, .int .u16 0, .int .u16 0, .int .u16 255, .int .u16 255].toArray, .agg [.int .u16 0, .int .u16 0, .int .u16 0, .int .u16 255, .int .u16 255].toArray], rfl, by simp, fun x hx => ⟨_, by simpa using hx, kinds_px pxo⟩⟩
  have c1 : F_span_Classify (LSV 5 2 [.int .u16 0, .int .u16 0, .int .u16 0, .int .u16 255, .int .u16 255, .int .u16 0, .int .u16 0, .int .u16 0, .int .u16 255, .int .u16 255]) 255 = 2 := by
    rw [pCls kd]
    rfl
  have c2 : F_span_Classify NILV 255 = 1 := by
    rw [pCls kind_nil]
    rfl
  have o : PV 0 0 0 255 255 255 := pxo.pv (by decide)
  have z : PV 0 0 0 0 0 255 := PV.zero (by decide)
  have cm : F_pixel_Composite 4 1 255 0 0 0 255 255 0 0 0 0 0 = (0, 0, 0, 255, 255, true) := by
    rw [compV (by decide) (by decide) (by decide) o z]
    unfold compZ
    rw [over_c (by decide), over_a (by decide), over_f (by decide), ov_full (by decide), ov_full (by decide)]
  have sp := spanC (kind_LSVP pxo) (kind_LSVP pxz) rfl (by decide) 4 1 255
  have e : (allI (fun j => (cmp2 4 1 255 (IX (LSV 5 1 [.int .u16 0, .int .u16 0, .int .u16 0, .int .u16 255, .int .u16 255]) j) (IX (LSV 5 1 [.int .u16 0, .int .u16 0, .int .u16 0, .int .u16 0, .int .u16 0]) j)).2.2.2.2.2) 0 (LN (LSV 5 1 [.int .u16 0, .int .u16 0, .int .u16 0, .int .u16 255, .int .u16 255]))) = true := by
    refine allI_iff.2 fun j h0 h1 => ?_
    have : j < 1 := h1
    obtain rfl : j = 0 := by omega
    exact (congrArg (fun x : Int × Int × Int × Int × Int × Bool => x.2.2.2.2.2) cm)
  rw [e, cond_true] at sp
  have hp : pre_span_Composite [.int .i64 4, .int .i64 1, .int .u16 255, (LSV 5 1 [.int .u16 0, .int .u16 0, .int .u16 0, .int .u16 255, .int .u16 255]), (LSV 5 1 [.int .u16 0, .int .u16 0, .int .u16 0, .int .u16 0, .int .u16 0])] = true := rfl
  rw [F_law16_awake_eq, hp, c1, c2, sp]
  have hx : (bld (fun j => pk6 (cmp2 4 1 255 (IX (LSV 5 1 [.int .u16 0, .int .u16 0, .int .u16 0, .int .u16 255, .int .u16 255]) j) (IX (LSV 5 1 [.int .u16 0, .int .u16 0, .int .u16 0, .int .u16 0, .int .u16 0]) j))) 0 (LN (LSV 5 1 [.int .u16 0, .int .u16 0, .int .u16 0, .int .u16 255, .int .u16 255])) NILV) = .agg #[.agg (pk6 (0, 0, 0, 255, 255, true)).toArray] :=
    congrArg (fun x : Int × Int × Int × Int × Int × Bool => Value.agg #[.agg (pk6 x).toArray]) cm
  rw [hx]
  rfl

end Go.Proofs.YtfjhhadmncjdiaaGreatDoor
