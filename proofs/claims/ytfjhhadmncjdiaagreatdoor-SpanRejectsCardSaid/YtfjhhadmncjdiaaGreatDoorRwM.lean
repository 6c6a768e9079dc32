/- Rows of pixels: loops over them in closed form. No condition. -/
import Derived.Test.YtfjhhadmncjdiaaGreatDoorSm16c
import Derived.Test.YtfjhhadmncjdiaaGreatDoorPix

/- Rows of pixels: what the loops over them compute, in closed form: every, Classify. No condition. -/
namespace Go.Proofs.YtfjhhadmncjdiaaGreatDoor
set_option maxRecDepth 100000
open Go.RowKit

abbrev PX : List SK := [.i .u16, .i .u16, .i .u16, .i .u16, .i .u16]
abbrev AX : List SK := [.i .u16, .i .u16, .i .u16, .i .u16, .i .u16, .i .u16]
def C1 (e : Value) : Int := num (CV e 0)
def C2 (e : Value) : Int := num (CV e 1)
def C3 (e : Value) : Int := num (CV e 2)
def C4 (e : Value) : Int := num (CV e 3)
def C5 (e : Value) : Int := num (CV e 4)
def C6 (e : Value) : Int := num (CV e 5)
def P5 (e : Value) : List Value := [.int .u16 (C1 e), .int .u16 (C2 e), .int .u16 (C3 e), .int .u16 (C4 e), .int .u16 (C5 e)]
def P6 (e : Value) : List Value := [.int .u16 (C1 e), .int .u16 (C2 e), .int .u16 (C3 e), .int .u16 (C4 e), .int .u16 (C5 e), .int .u16 (C6 e)]
theorem CV_PK (cs : List Value) (j : Nat) : CV (PK cs) j = cs.getD j undef := CV_agg cs j
theorem num_b {k : IntKind} {v : Value} (h : inKind (.i k) v) : v = .int k (num v) ∧ k.min ≤ num v ∧ num v ≤ k.max := by
  obtain ⟨n, rfl, h1, h2⟩ := (inKind_pl (κ := .i k) rfl).1 h
  exact ⟨rfl, h1, h2⟩
theorem px_cells {cs : List Value} (h : KindsL PX cs) : Value.agg cs.toArray = .agg (P5 (.agg cs.toArray)).toArray ∧ P16 (C1 (.agg cs.toArray)) (C2 (.agg cs.toArray)) (C3 (.agg cs.toArray)) (C4 (.agg cs.toArray)) (C5 (.agg cs.toArray)) := by
  obtain ⟨a, _, rfl, ha, b, _, rfl, hb, c, _, rfl, hc, d, _, rfl, hd, e, _, rfl, he, rfl⟩ := h
  have ha := num_b ha
  have hb := num_b hb
  have hc := num_b hc
  have hd := num_b hd
  have he := num_b he
  refine ⟨?_, ⟨ha.2, hb.2, hc.2, hd.2, he.2⟩⟩
  show Value.agg [a, b, c, d, e].toArray = .agg [.int .u16 (num a), .int .u16 (num b), .int .u16 (num c), .int .u16 (num d), .int .u16 (num e)].toArray
  rw [← ha.1, ← hb.1, ← hc.1, ← hd.1, ← he.1]
theorem px_at {l : Value} (h : inKind (.l PX) l) {i : Int} (h0 : 0 ≤ i) (h1 : i < LN l) : IX l i = .agg (P5 (IX l i)).toArray ∧ P16 (C1 (IX l i)) (C2 (IX l i)) (C3 (IX l i)) (C4 (IX l i)) (C5 (IX l i)) := by
  obtain ⟨cs, e, k⟩ := elem_kinds h h0 h1
  rw [e]
  exact px_cells k
theorem up_to {n : Int} {Q : Int → Prop} (h : ∀ i, 0 ≤ i → i < n → Q (i + 1) → Q i) (hn : Q n) : ∀ i, 0 ≤ i → i ≤ n → Q i := by
  have : ∀ k : Nat, ∀ i, 0 ≤ i → i ≤ n → n - i = k → Q i := by
    intro k
    induction k with
    | zero => intro i _ _ e; rwa [show i = n by omega]
    | succ k ih => intro i h0 h1 e; exact h i h0 (by omega) (ih (i + 1) (by omega) (by omega) (by omega))
  intro i h0 h1
  exact this (n - i).toNat i h0 h1 (by omega)

theorem pOpq (c0 c1 c2 a f m : Int) : F_pixel_Opaque c0 c1 c2 a f m = (F_ref01_Full m && (F_ref01_ValidPixel c0 c1 c2 a f m && (a == m))) := by
  rw [F_pixel_Opaque_eq, full_dec, rValidP]
  simp only [pValid, bif_ite, beq_dec]
  by_cases hv : VP c0 c1 c2 a f m
  · by_cases h1 : m = 255
    · subst h1
      simp [hv]
    · by_cases h2 : m = 65535
      · subst h2
        simp [hv]
      · simp [h1, h2]
  · simp [hv]

/-! every -/
section
variable {l : Value} (hl : inKind (.l PX) l)
include hl
theorem every_T_loop : ∀ i, 0 ≤ i → i ≤ LN l → LF_span_every_T_2 [PK [], l, .int .i64 (LN l), .int .i64 i] = bif allI (fun j => F_pixel_Transparent (C1 (IX l j)) (C2 (IX l j)) (C3 (IX l j)) (C4 (IX l j)) (C5 (IX l j))) i (LN l) then [.int .i64 1] else [.int .i64 0, .bool false] :=
  up_to (fun i h0 h1 ih => by
    rw [LF_span_every_T_2_go]
    unfold OUT_span_every_T_2
    rw [decide_eq_true h1, INB_of h0 h1, allI_step h1]
    simp only [cond_true]
    cases hc : F_pixel_Transparent (num (CV (IX l i) 0)) (num (CV (IX l i) 1)) (num (CV (IX l i) 2)) (num (CV (IX l i) 3)) (num (CV (IX l i) 4))
    · simp only [Bool.not_false, cond_true, C1, C2, C3, C4, C5, hc, Bool.false_and, cond_false]
      rfl
    · simp only [Bool.not_true, cond_false, goOn_next, up_in hl h0 h1, ih]
      simp only [C1, C2, C3, C4, C5, hc, Bool.true_and]) (by
    rw [LF_span_every_T_2_go]
    unfold OUT_span_every_T_2
    rw [decide_eq_false (by omega), allI_end (Int.le_refl _)]
    rfl)
theorem every_T : F_span_every_T l (PK []) = allI (fun j => F_pixel_Transparent (C1 (IX l j)) (C2 (IX l j)) (C3 (IX l j)) (C4 (IX l j)) (C5 (IX l j))) 0 (LN l) := by
  have hp : pre_span_every_T_2 [(PK []), l, .int .i64 (LN l), .int .i64 0] = true := (show (decide (LN l = LN l) && decide ((0 : Int) ≤ 0)) = true by simp)
  rw [F_span_every_T_eq, hp, cond_true, every_T_loop hl 0 (Int.le_refl _) (LN_nonneg l)]
  cases allI (fun j => F_pixel_Transparent (C1 (IX l j)) (C2 (IX l j)) (C3 (IX l j)) (C4 (IX l j)) (C5 (IX l j))) 0 (LN l) <;> rfl
theorem every_O_loop (m : Int) : ∀ i, 0 ≤ i → i ≤ LN l → LF_span_every_O_2 [PK [PK [.int .u16 m]], l, .int .i64 (LN l), .int .i64 i] = bif allI (fun j => F_pixel_Opaque (C1 (IX l j)) (C2 (IX l j)) (C3 (IX l j)) (C4 (IX l j)) (C5 (IX l j)) m) i (LN l) then [.int .i64 1] else [.int .i64 0, .bool false] :=
  up_to (fun i h0 h1 ih => by
    rw [LF_span_every_O_2_go]
    unfold OUT_span_every_O_2
    rw [decide_eq_true h1, INB_of h0 h1, allI_step h1]
    simp only [cond_true, CV_PK, List.getD_cons_zero, num_int]
    cases hc : F_pixel_Opaque (num (CV (IX l i) 0)) (num (CV (IX l i) 1)) (num (CV (IX l i) 2)) (num (CV (IX l i) 3)) (num (CV (IX l i) 4)) m
    · simp only [Bool.not_false, cond_true, C1, C2, C3, C4, C5, hc, Bool.false_and, cond_false]
      rfl
    · simp only [Bool.not_true, cond_false, goOn_next, up_in hl h0 h1, ih]
      simp only [C1, C2, C3, C4, C5, hc, Bool.true_and]) (by
    rw [LF_span_every_O_2_go]
    unfold OUT_span_every_O_2
    rw [decide_eq_false (by omega), allI_end (Int.le_refl _)]
    rfl)
theorem every_O (m : Int) : F_span_every_O l (PK [PK [.int .u16 m]]) = allI (fun j => F_pixel_Opaque (C1 (IX l j)) (C2 (IX l j)) (C3 (IX l j)) (C4 (IX l j)) (C5 (IX l j)) m) 0 (LN l) := by
  have hp : pre_span_every_O_2 [(PK [PK [.int .u16 m]]), l, .int .i64 (LN l), .int .i64 0] = true := (show (decide (LN l = LN l) && decide ((0 : Int) ≤ 0)) = true by simp)
  rw [F_span_every_O_eq]
  simp only [CV_PK, List.getD_cons_zero]
  rw [hp, cond_true, every_O_loop hl m 0 (Int.le_refl _) (LN_nonneg l)]
  cases allI (fun j => F_pixel_Opaque (C1 (IX l j)) (C2 (IX l j)) (C3 (IX l j)) (C4 (IX l j)) (C5 (IX l j)) m) 0 (LN l) <;> rfl
theorem every_V_loop (m : Int) : ∀ i, 0 ≤ i → i ≤ LN l → LF_span_every_V_2 [PK [PK [.int .u16 m]], l, .int .i64 (LN l), .int .i64 i] = bif allI (fun j => F_sample_Valid (C1 (IX l j)) (C2 (IX l j)) (C3 (IX l j)) (C4 (IX l j)) (C5 (IX l j)) m) i (LN l) then [.int .i64 1] else [.int .i64 0, .bool false] :=
  up_to (fun i h0 h1 ih => by
    rw [LF_span_every_V_2_go]
    unfold OUT_span_every_V_2
    rw [decide_eq_true h1, INB_of h0 h1, allI_step h1]
    simp only [cond_true, CV_PK, List.getD_cons_zero, num_int]
    cases hc : F_sample_Valid (num (CV (IX l i) 0)) (num (CV (IX l i) 1)) (num (CV (IX l i) 2)) (num (CV (IX l i) 3)) (num (CV (IX l i) 4)) m
    · simp only [Bool.not_false, cond_true, C1, C2, C3, C4, C5, hc, Bool.false_and, cond_false]
      rfl
    · simp only [Bool.not_true, cond_false, goOn_next, up_in hl h0 h1, ih]
      simp only [C1, C2, C3, C4, C5, hc, Bool.true_and]) (by
    rw [LF_span_every_V_2_go]
    unfold OUT_span_every_V_2
    rw [decide_eq_false (by omega), allI_end (Int.le_refl _)]
    rfl)
theorem every_V (m : Int) : F_span_every_V l (PK [PK [.int .u16 m]]) = allI (fun j => F_sample_Valid (C1 (IX l j)) (C2 (IX l j)) (C3 (IX l j)) (C4 (IX l j)) (C5 (IX l j)) m) 0 (LN l) := by
  have hp : pre_span_every_V_2 [(PK [PK [.int .u16 m]]), l, .int .i64 (LN l), .int .i64 0] = true := (show (decide (LN l = LN l) && decide ((0 : Int) ≤ 0)) = true by simp)
  rw [F_span_every_V_eq]
  simp only [CV_PK, List.getD_cons_zero]
  rw [hp, cond_true, every_V_loop hl m 0 (Int.le_refl _) (LN_nonneg l)]
  cases allI (fun j => F_sample_Valid (C1 (IX l j)) (C2 (IX l j)) (C3 (IX l j)) (C4 (IX l j)) (C5 (IX l j)) m) 0 (LN l) <;> rfl
def eqP (a b : Value) : Bool := ((C1 a == C1 b) && ((C2 a == C2 b) && (C3 a == C3 b))) && ((C4 a == C4 b) && (C5 a == C5 b))
theorem every_S_loop : ∀ i, 0 ≤ i → i ≤ LN l → LF_span_every_S_2 [PK [PK [l]], l, .int .i64 (LN l), .int .i64 i] = bif allI (fun j => eqP (IX l j) (IX l 0)) i (LN l) then [.int .i64 1] else [.int .i64 0, .bool false] :=
  up_to (fun i h0 h1 ih => by
    rw [LF_span_every_S_2_go]
    unfold OUT_span_every_S_2
    simp only [CV_PK, List.getD_cons_zero]
    rw [decide_eq_true h1, INB_of h0 h1, INB_of (Int.le_refl 0) (by omega), allI_step h1]
    simp only [cond_true]
    change goOn _ (bif !eqP (IX l i) (IX l 0) then _ else _) = _
    cases hc : eqP (IX l i) (IX l 0)
    · simp only [Bool.not_false, cond_true, Bool.false_and, cond_false]
      rfl
    · simp only [Bool.not_true, cond_false, goOn_next, up_in hl h0 h1, ih, Bool.true_and]) (by
    rw [LF_span_every_S_2_go]
    unfold OUT_span_every_S_2
    rw [decide_eq_false (by omega), allI_end (Int.le_refl _)]
    rfl)
theorem every_S : F_span_every_S l (PK [PK [l]]) = allI (fun j => eqP (IX l j) (IX l 0)) 0 (LN l) := by
  have hp : pre_span_every_S_2 [(PK [PK [l]]), l, .int .i64 (LN l), .int .i64 0] = true := (show (decide (LN l = LN l) && decide ((0 : Int) ≤ 0) && decide (LN l ≤ LN l)) = true by simp)
  rw [F_span_every_S_eq]
  simp only [CV_PK, List.getD_cons_zero]
  rw [hp, cond_true, every_S_loop hl 0 (Int.le_refl _) (LN_nonneg l)]
  cases allI (fun j => eqP (IX l j) (IX l 0)) 0 (LN l) <;> rfl

/-! The class of a row. -/
def tzP (e : Value) : Bool := ((C1 e == 0) && ((C2 e == 0) && (C3 e == 0))) && ((C4 e == 0) && (C5 e == 0))
noncomputable def opP (m : Int) (e : Value) : Bool := F_ref01_Full m && (F_ref01_ValidPixel (C1 e) (C2 e) (C3 e) (C4 e) (C5 e) m && (C4 e == m))
def tz (l : Value) : Bool := allI (fun j => tzP (IX l j)) 0 (LN l)
def sd (l : Value) : Bool := allI (fun j => eqP (IX l j) (IX l 0)) 0 (LN l)
noncomputable def oq (m : Int) (l : Value) : Bool := allI (fun j => opP m (IX l j)) 0 (LN l)
noncomputable def clsZ (m : Int) (l : Value) : Int := bif tz l then 1 else bif sd l then 2 else bif oq m l then 3 else 4
theorem ref_loop (m : Int) : ∀ i, 0 ≤ i → i ≤ LN l → ∀ a b c : Bool, LF_ref13_Classify_3 [l, .int .u16 m, .bool a, .bool b, .bool c, .int .i64 i] = [.int .i64 0, .bool (a && allI (fun j => tzP (IX l j)) i (LN l)), .bool (b && allI (fun j => eqP (IX l j) (IX l 0)) i (LN l)), .bool (c && allI (fun j => opP m (IX l j)) i (LN l))] :=
  up_to (fun i h0 h1 ih a b c => by
    rw [LF_ref13_Classify_3_go]
    unfold OUT_ref13_Classify_3
    rw [decide_eq_true h1, INB_of h0 h1, INB_of (Int.le_refl 0) (by omega), allI_step h1, allI_step h1, allI_step h1]
    simp only [cond_true]
    have e1 : ((((num (CV (IX l i) 0)) == 0) && (((num (CV (IX l i) 1)) == 0) && ((num (CV (IX l i) 2)) == 0))) && (((num (CV (IX l i) 3)) == 0) && ((num (CV (IX l i) 4)) == 0))) = tzP (IX l i) := rfl
    have e2 : ((((num (CV (IX l i) 0)) == (num (CV (IX l 0) 0))) && (((num (CV (IX l i) 1)) == (num (CV (IX l 0) 1))) && ((num (CV (IX l i) 2)) == (num (CV (IX l 0) 2))))) && (((num (CV (IX l i) 3)) == (num (CV (IX l 0) 3))) && ((num (CV (IX l i) 4)) == (num (CV (IX l 0) 4))))) = eqP (IX l i) (IX l 0) := rfl
    have e3 : opP m (IX l i) = (F_ref01_Full m && (F_ref01_ValidPixel (num (CV (IX l i) 0)) (num (CV (IX l i) 1)) (num (CV (IX l i) 2)) (num (CV (IX l i) 3)) (num (CV (IX l i) 4)) m && (num (CV (IX l i) 3) == m))) := rfl
    rw [e1, e2, e3]
    cases a <;> cases b <;> cases c <;> simp only [cond_true, cond_false, goOn_bif, goOn_next, up_in hl h0 h1, ih, Bool.true_and, Bool.false_and] <;> cases F_ref01_Full m <;> simp only [cond_true, cond_false, Bool.true_and, Bool.false_and] <;> cases F_ref01_ValidPixel (num (CV (IX l i) 0)) (num (CV (IX l i) 1)) (num (CV (IX l i) 2)) (num (CV (IX l i) 3)) (num (CV (IX l i) 4)) m <;> simp only [cond_true, cond_false, Bool.true_and, Bool.false_and]) (fun a b c => by
    rw [LF_ref13_Classify_3_go]
    unfold OUT_ref13_Classify_3
    rw [decide_eq_false (by omega), allI_end (Int.le_refl _), allI_end (Int.le_refl _), allI_end (Int.le_refl _)]
    simp only [Bool.and_true]
    rfl)
theorem pCls (m : Int) : F_span_Classify l m = clsZ m l := by
  have hp : pre_span_every_T [l, (PK [])] = true := rfl
  have hs : pre_span_every_S [l, (PK [(PK [l])])] = true := decide_eq_true (Int.le_refl (LN l))
  have ho : pre_span_every_O [l, (PK [(PK [.int .u16 m])])] = true := rfl
  have e1 : (fun j => F_pixel_Transparent (C1 (IX l j)) (C2 (IX l j)) (C3 (IX l j)) (C4 (IX l j)) (C5 (IX l j))) = fun j => tzP (IX l j) := funext fun j => F_pixel_Transparent_eq _ _ _ _ _
  have e3 : (fun j => F_pixel_Opaque (C1 (IX l j)) (C2 (IX l j)) (C3 (IX l j)) (C4 (IX l j)) (C5 (IX l j)) m) = fun j => opP m (IX l j) := funext fun j => pOpq _ _ _ _ _ _
  rw [F_span_Classify_eq, hp, hs, ho, every_T hl, every_S hl, every_O hl, e1, e3]
  rfl
end
theorem pVal {l : Value} (hl : inKind (.l PX) l) (m : Int) : F_span_valid l m = allI (fun j => decide (VP (C1 (IX l j)) (C2 (IX l j)) (C3 (IX l j)) (C4 (IX l j)) (C5 (IX l j)) m)) 0 (LN l) := by
  have hp : pre_span_every_V [l, (PK [(PK [.int .u16 m])])] = true := rfl
  rw [F_span_valid_eq, hp, every_V hl]
  simp only [pValid]
  rfl
end Go.Proofs.YtfjhhadmncjdiaaGreatDoor

/- Rows of pixels: the composite of two rows, and the rows that the statements draw, in closed form. No condition. -/
namespace Go.Proofs.YtfjhhadmncjdiaaGreatDoor
set_option maxRecDepth 100000
open Go.RowKit

theorem bld_snoc {g : Int → List Value} {i n : Int} {out : Value} (h : i ≤ n) : SN (bld g i n out) (g n) = bld g i (n + 1) out := by
  have e : (n + 1 - i).toNat = (n - i).toNat + 1 := by omega
  have e2 : i + ((n - i).toNat : Int) = n := by omega
  simp only [SN, bld, els_toArray, e, List.range_succ, List.map_append, List.map_cons, List.map_nil, List.append_assoc, e2]
theorem LN_bld0 {g : Int → List Value} {n : Int} (h : 0 ≤ n) : LN (bld g 0 n NILV) = n := by rw [LN_bld h, LN_nil]; omega
theorem IX_bld0 {g : Int → List Value} {n j : Int} (h0 : 0 ≤ j) (h1 : j < n) : IX (bld g 0 n NILV) j = .agg (g j).toArray := by
  rw [IX_bld (by rw [LN_nil]; exact h0) (by rw [LN_nil]; omega), LN_nil]
  congr 3
  omega
theorem RP_zero (zs : List Value) : RP zs 0 = NILV := rfl
theorem CV_cons0 (a : Value) (l : List Value) : CV (.agg (a :: l).toArray) 0 = a := by rw [CV_agg]; rfl
theorem CV_cons (a : Value) (l : List Value) (j : Nat) : CV (.agg (a :: l).toArray) (j + 1) = CV (.agg l.toArray) j := by rw [CV_agg, CV_agg]; rfl
theorem CT_nil (l : Value) {κs : List SK} (h : inKind (.l κs) l) : CT NILV l = l := by
  obtain ⟨es, rfl, h1, _⟩ := list_eq h
  simp only [CT, h1]
  rfl
/-- Where each element is the pack of what g tells, the slice is built by g. -/
theorem eq_bld {κs : List SK} {l : Value} {g : Int → List Value} (h : inKind (.l κs) l) (hg : ∀ i, 0 ≤ i → i < LN l → IX l i = .agg (g i).toArray) : l = bld g 0 (LN l) NILV := by
  obtain ⟨es, rfl, h1, _⟩ := list_eq h
  simp only [bld]
  congr 2
  rw [show els NILV = [] from rfl, List.nil_append]
  refine List.ext_getElem? fun i => ?_
  have hL : LN (Value.agg es.toArray) = (es.length : Int) := LN_agg es
  rcases Nat.lt_or_ge i es.length with q | q
  · have := hg i (by omega) (by rw [hL]; omega)
    rw [IX_agg, Int.toNat_natCast, List.getD, List.getElem?_eq_getElem q, Option.getD_some] at this
    rw [List.getElem?_eq_getElem q, this, List.getElem?_map, List.getElem?_range (by rw [hL]; omega)]
    simp
  · rw [List.getElem?_eq_none q, List.getElem?_eq_none (by simp only [List.length_map, List.length_range]; rw [hL]; omega)]

noncomputable def cmp2 (o k m : Int) (a b : Value) : Int × Int × Int × Int × Int × Bool := F_pixel_Composite o k m (C1 a) (C2 a) (C3 a) (C4 a) (C5 a) (C1 b) (C2 b) (C3 b) (C4 b) (C5 b)
def pk6 (x : Int × Int × Int × Int × Int × Bool) : List Value := [.int .u16 x.1, .int .u16 x.2.1, .int .u16 x.2.2.1, .int .u16 x.2.2.2.1, .int .u16 x.2.2.2.2.1]
theorem cmp2_congr {o k m : Int} {a b c d : Value} (h1 : eqP a b = true) (h2 : eqP c d = true) : cmp2 o k m a c = cmp2 o k m b d := by
  simp only [eqP, Bool.and_eq_true, beq_iff_eq] at h1 h2
  simp only [cmp2, h1, h2]
section
variable {s d : Value} (hn : LN d = LN s) (hb : LN s ≤ 1000) (o k m : Int)
include hn hb
theorem each_loop : ∀ i, 0 ≤ i → i ≤ LN s → allI (fun j => (cmp2 o k m (IX s j) (IX d j)).2.2.2.2.2) 0 i = true →
    LF_span_each_C_3 [s, d, PK [PK [.int .i64 o], PK [.int .i64 k], PK [.int .u16 m]], .int .i64 (LN s), .int .i64 i, bld (fun j => pk6 (cmp2 o k m (IX s j) (IX d j))) 0 i NILV] =
      bif allI (fun j => (cmp2 o k m (IX s j) (IX d j)).2.2.2.2.2) i (LN s) then [.int .i64 1, bld (fun j => pk6 (cmp2 o k m (IX s j) (IX d j))) 0 (LN s) NILV] else [.int .i64 0, .bool false, NILV] :=
  up_to (fun i h0 h1 ih ha => by
    rw [LF_span_each_C_3_go]
    unfold OUT_span_each_C_3
    have ro : ∀ cs, RO 10 (SN (bld (fun j => pk6 (cmp2 o k m (IX s j) (IX d j))) 0 i NILV) cs) = true := fun cs => RO_of (n := 1001) (by rw [LN_SN, LN_bld0 h0]; omega) (by decide) (by decide)
    have w1 : IntKind.i64.wrap (i + 1) = i + 1 := i64_in (by omega) (by omega)
    have w0 : IntKind.i64.wrap (i - 1) = i - 1 := i64_in (by omega) (by omega)
    have s0 : INB s i = true := INB_of h0 h1
    have d0 : INB d i = true := INB_of h0 (by omega)
    have nx : (cmp2 o k m (IX s i) (IX d i)).2.2.2.2.2 = true → LF_span_each_C_3 [s, d, PK [PK [.int .i64 o], PK [.int .i64 k], PK [.int .u16 m]], .int .i64 (LN s), .int .i64 (i + 1), SN (bld (fun j => pk6 (cmp2 o k m (IX s j) (IX d j))) 0 i NILV) (pk6 (cmp2 o k m (IX s i) (IX d i)))] =
        bif allI (fun j => (cmp2 o k m (IX s j) (IX d j)).2.2.2.2.2) i (LN s) then [.int .i64 1, bld (fun j => pk6 (cmp2 o k m (IX s j) (IX d j))) 0 (LN s) NILV] else [.int .i64 0, .bool false, NILV] := fun hc => by
      rw [bld_snoc (g := fun j => pk6 (cmp2 o k m (IX s j) (IX d j))) h0, allI_step h1]
      simp only [hc, Bool.true_and]
      refine ih (allI_iff.2 fun j j0 j1 => ?_)
      by_cases e : j = i
      · subst e; exact hc
      · exact allI_iff.1 ha j j0 (by omega)
    have main : (let x0 := F_span_Composite_1 (num (CV (IX s i) 0)) (num (CV (IX s i) 1)) (num (CV (IX s i) 2)) (num (CV (IX s i) 3)) (num (CV (IX s i) 4)) (num (CV (IX d i) 0)) (num (CV (IX d i) 1)) (num (CV (IX d i) 2)) (num (CV (IX d i) 3)) (num (CV (IX d i) 4)) (PK [.int .i64 o]) (PK [.int .i64 k]) (PK [.int .u16 m])
        goOn LF_span_each_C_3 (bif (!x0.2.2.2.2.2) then ([.int .i64 0, .bool false, NILV]) else [.int .i64 (-1), s, d, PK [PK [.int .i64 o], PK [.int .i64 k], PK [.int .u16 m]], .int .i64 (LN s), .int .i64 (i + 1), SN (bld (fun j => pk6 (cmp2 o k m (IX s j) (IX d j))) 0 i NILV) [.int .u16 x0.1, .int .u16 x0.2.1, .int .u16 x0.2.2.1, .int .u16 x0.2.2.2.1, .int .u16 x0.2.2.2.2.1]])) =
        bif allI (fun j => (cmp2 o k m (IX s j) (IX d j)).2.2.2.2.2) i (LN s) then [.int .i64 1, bld (fun j => pk6 (cmp2 o k m (IX s j) (IX d j))) 0 (LN s) NILV] else [.int .i64 0, .bool false, NILV] := by
      simp only [F_span_Composite_1_eq, CV_PK, List.getD_cons_zero, num_int]
      change goOn _ (bif !(cmp2 o k m (IX s i) (IX d i)).2.2.2.2.2 then _ else [_, s, d, _, _, _, SN _ (pk6 (cmp2 o k m (IX s i) (IX d i)))]) = _
      cases hc : (cmp2 o k m (IX s i) (IX d i)).2.2.2.2.2
      · simp only [Bool.not_false, cond_true, allI_step h1, hc, Bool.false_and, cond_false]
        rfl
      · simp only [Bool.not_true, cond_false, goOn_next]
        exact nx hc
    simp only [CV_PK, List.getD_cons_zero, List.getD_cons_succ, w0, w1, s0, d0, ro, decide_eq_true h1, cond_true]
    by_cases hi : i > 0
    · have hp : INB s (i - 1) = true := INB_of (by omega) (by omega)
      have dp : INB d (i - 1) = true := INB_of (by omega) (by omega)
      have op : INB (bld (fun j => pk6 (cmp2 o k m (IX s j) (IX d j))) 0 i NILV) (i - 1) = true := INB_of (by omega) (by rw [LN_bld0 h0]; omega)
      simp only [decide_eq_true hi, hp, dp, op, cond_true]
      change goOn _ (bif eqP (IX s i) (IX s (i - 1)) then (bif eqP (IX d i) (IX d (i - 1)) then _ else _) else _) = _
      cases e1 : eqP (IX s i) (IX s (i - 1))
      · exact main
      · cases e2 : eqP (IX d i) (IX d (i - 1))
        · exact main
        · simp only [cond_true, goOn_next]
          have hc : cmp2 o k m (IX s i) (IX d i) = cmp2 o k m (IX s (i - 1)) (IX d (i - 1)) := cmp2_congr e1 e2
          have hk : (cmp2 o k m (IX s i) (IX d i)).2.2.2.2.2 = true := by
            rw [hc]
            exact allI_iff.1 ha (i - 1) (by omega) (by omega)
          have e3 : [Value.int .u16 (num (CV (IX (bld (fun j => pk6 (cmp2 o k m (IX s j) (IX d j))) 0 i NILV) (i - 1)) 0)), .int .u16 (num (CV (IX (bld (fun j => pk6 (cmp2 o k m (IX s j) (IX d j))) 0 i NILV) (i - 1)) 1)), .int .u16 (num (CV (IX (bld (fun j => pk6 (cmp2 o k m (IX s j) (IX d j))) 0 i NILV) (i - 1)) 2)), .int .u16 (num (CV (IX (bld (fun j => pk6 (cmp2 o k m (IX s j) (IX d j))) 0 i NILV) (i - 1)) 3)), .int .u16 (num (CV (IX (bld (fun j => pk6 (cmp2 o k m (IX s j) (IX d j))) 0 i NILV) (i - 1)) 4))] = pk6 (cmp2 o k m (IX s i) (IX d i)) := by
            rw [IX_bld0 (by omega) (by omega), hc]
            simp only [pk6, CV_cons, CV_cons0, num_int]
          rw [e3]
          exact nx hk
    · simp only [decide_eq_false hi, cond_false]
      exact main) (fun _ => by
    rw [LF_span_each_C_3_go]
    unfold OUT_span_each_C_3
    rw [decide_eq_false (by omega), allI_end (Int.le_refl _)]
    rfl)
theorem each_is : F_span_each_C s d (PK [PK [.int .i64 o], PK [.int .i64 k], PK [.int .u16 m]]) = bif allI (fun j => (cmp2 o k m (IX s j) (IX d j)).2.2.2.2.2) 0 (LN s) then (bld (fun j => pk6 (cmp2 o k m (IX s j) (IX d j))) 0 (LN s) NILV, true) else (NILV, false) := by
  have h0 := LN_nonneg s
  have mk : MKB 10 0 (LN s) = true := by
    simp only [MKB, Bool.and_eq_true, decide_eq_true_eq]
    omega
  have p : pre_span_each_C_3 [s, d, PK [PK [.int .i64 o], PK [.int .i64 k], PK [.int .u16 m]], .int .i64 (LN s), .int .i64 0, NILV] = true := by
    show (decide (LN s = LN s) && decide (LN d = LN s) && decide ((0 : Int) ≤ 0) && decide (0 ≤ LN s) && decide (LN NILV = 0) && decide (LN s ≤ 1000)) = true
    simp only [Bool.and_eq_true, decide_eq_true_eq]
    refine ⟨⟨⟨⟨⟨?_, ?_⟩, ?_⟩, ?_⟩, ?_⟩, ?_⟩ <;> first | trivial | omega | rfl
  have q := each_loop hn hb o k m 0 (Int.le_refl 0) h0 (allI_end (Int.le_refl 0))
  rw [show bld (fun j => pk6 (cmp2 o k m (IX s j) (IX d j))) 0 0 NILV = NILV from rfl] at q
  rw [F_span_each_C_eq, mk, cond_true, RP_zero]
  simp only [CV_PK, List.getD_cons_zero, List.getD_cons_succ, p, cond_true, q]
  cases allI (fun j => (cmp2 o k m (IX s j) (IX d j)).2.2.2.2.2) 0 (LN s) <;> rfl
end

theorem known_of {o k m : Int} (h : F_span_known o k m = true) : (1 ≤ o ∧ o ≤ 12) ∧ (1 ≤ k ∧ k ≤ 12) ∧ (m = 255 ∨ m = 65535) := by
  rw [F_span_known_eq] at h
  have hb : ∀ a b c d : Bool, (bif a then (bif b then (bif c then true else d) else false) else false) = true → a = true ∧ b = true ∧ (c = true ∨ d = true) := by decide
  obtain ⟨h1, h2, h3⟩ := hb _ _ _ _ h
  refine ⟨?_, ?_, by simpa only [beq_iff_eq] using h3⟩
  · by_cases ho : 1 ≤ o ∧ o ≤ 12
    · exact ho
    · have e : F_operator_find o = (⟨#[]⟩, 0, 0, 0, false) := if_neg ho
      rw [e] at h1
      exact Bool.noConfusion (show false = true from h1)
  · by_cases hk : 1 ≤ k ∧ k ≤ 12
    · exact hk
    · have e : F_blend_Name k = ⟨#[]⟩ := if_neg hk
      rw [e] at h2
      exact Bool.noConfusion (show false = true from h2)
theorem opP_of {m : Int} {e : Value} (h : opP m e = true) : VP (C1 e) (C2 e) (C3 e) (C4 e) (C5 e) m ∧ C4 e = m := by
  unfold opP at h
  rw [rValidP] at h
  simp only [Bool.and_eq_true, decide_eq_true_eq, beq_iff_eq] at h
  exact h.2
theorem tzP_of {e : Value} (h : tzP e = true) : C1 e = 0 ∧ C2 e = 0 ∧ C3 e = 0 ∧ C4 e = 0 ∧ C5 e = 0 := by
  unfold tzP at h
  simp only [Bool.and_eq_true, beq_iff_eq] at h
  exact ⟨h.1.1, h.1.2.1, h.1.2.2, h.2.1, h.2.2⟩
theorem ov_full {s d m : Int} (hm : 1 ≤ m) : ov s m d m = s := by
  unfold ov
  rw [Int.sub_self, Int.zero_mul, hv_z hm]
  omega
theorem copy_d {s d : Value} (hd : inKind (.l PX) d) (hn : LN d = LN s) (o k m : Int) (ho : neutralO o) (hk : 1 ≤ k ∧ k ≤ 12) (hm : m = 255 ∨ m = 65535) (ht : tz s = true) (hv : F_span_valid d m = true) :
    (CT NILV d, true) = bif allI (fun j => (cmp2 o k m (IX s j) (IX d j)).2.2.2.2.2) 0 (LN s) then (bld (fun j => pk6 (cmp2 o k m (IX s j) (IX d j))) 0 (LN s) NILV, true) else (NILV, false) := by
  rw [pVal hd] at hv
  have m0 : 1 ≤ m := by omega
  have key : ∀ j, 0 ≤ j → j < LN s → cmp2 o k m (IX s j) (IX d j) = (C1 (IX d j), C2 (IX d j), C3 (IX d j), C4 (IX d j), C5 (IX d j), true) := fun j j0 j1 => by
    obtain ⟨z1, z2, z3, z4, z5⟩ := tzP_of (allI_iff.1 ht j j0 j1)
    have v := of_decide_eq_true (allI_iff.1 hv j j0 (by omega))
    have pd := (px_at hd j0 (by omega)).2.pv v
    unfold cmp2
    rw [z1, z2, z3, z4, z5, compV hm (by unfold neutralO at ho; omega) hk (PV.zero (by omega)) pd]
    unfold compZ
    have a1 : C4 (IX d j) ≤ 65535 := by have := pd.af; have := pd.fm; omega
    rw [neutral_c m0 ho hk ⟨pd.l0, pd.u0, a1⟩, neutral_c m0 ho hk ⟨pd.l1, pd.u1, a1⟩, neutral_c m0 ho hk ⟨pd.l2, pd.u2, a1⟩, neutral_a m0 ho, neutral_f m0 ho]
  rw [allI_iff.2 (fun j j0 j1 => by rw [key j j0 j1]), cond_true, CT_nil d hd]
  refine Prod.ext ?_ rfl
  show d = bld (fun j => pk6 (cmp2 o k m (IX s j) (IX d j))) 0 (LN s) NILV
  rw [← hn]
  refine eq_bld hd fun j j0 j1 => ?_
  rw [key j j0 (by omega)]
  exact (px_at hd j0 j1).1
theorem copy_s {s d : Value} (hs : inKind (.l PX) s) (hd : inKind (.l PX) d) (hn : LN d = LN s) (m : Int) (hm : m = 255 ∨ m = 65535) (ht : oq m s = true) (hv : F_span_valid d m = true) :
    (CT NILV s, true) = bif allI (fun j => (cmp2 4 1 m (IX s j) (IX d j)).2.2.2.2.2) 0 (LN s) then (bld (fun j => pk6 (cmp2 4 1 m (IX s j) (IX d j))) 0 (LN s) NILV, true) else (NILV, false) := by
  rw [pVal hd] at hv
  have m0 : 1 ≤ m := by omega
  have key : ∀ j, 0 ≤ j → j < LN s → cmp2 4 1 m (IX s j) (IX d j) = (C1 (IX s j), C2 (IX s j), C3 (IX s j), C4 (IX s j), C5 (IX s j), true) := fun j j0 j1 => by
    obtain ⟨z1, z2⟩ := opP_of (allI_iff.1 ht j j0 j1)
    have v := of_decide_eq_true (allI_iff.1 hv j j0 (by omega))
    have pd := (px_at hd j0 (by omega)).2.pv v
    have ps := (px_at hs j0 j1).2.pv z1
    have hf : C5 (IX s j) = m := by have := ps.af; have := ps.fm; omega
    unfold cmp2
    rw [compV hm (by decide) (by decide) ps pd]
    unfold compZ
    rw [over_c m0, over_c m0, over_c m0, over_a m0, over_f m0, z2, hf, ov_full m0, ov_full m0, ov_full m0, ov_full m0, ov_full m0]
  rw [allI_iff.2 (fun j j0 j1 => by rw [key j j0 j1]), cond_true, CT_nil s hs]
  refine Prod.ext ?_ rfl
  show s = bld (fun j => pk6 (cmp2 4 1 m (IX s j) (IX d j))) 0 (LN s) NILV
  refine eq_bld hs fun j j0 j1 => ?_
  rw [key j j0 j1]
  exact (px_at hs j0 j1).1
section
variable {s d : Value} (hs : inKind (.l PX) s) (hd : inKind (.l PX) d) (hn : LN d = LN s) (hb : LN s ≤ 1000) (o k m : Int)
include hs hd hn hb
theorem spanC : F_span_Composite o k m s d = bif allI (fun j => (cmp2 o k m (IX s j) (IX d j)).2.2.2.2.2) 0 (LN s) then (bld (fun j => pk6 (cmp2 o k m (IX s j) (IX d j))) 0 (LN s) NILV, true) else (NILV, false) := by
  have hq : pre_span_each_C [s, d, (PK [(PK [.int .i64 o]), (PK [.int .i64 k]), (PK [.int .u16 m])])] = true := by
    show (decide (LN d = LN s) && decide (LN s ≤ 1000)) = true
    simp only [Bool.and_eq_true, decide_eq_true_eq]
    omega
  have hr3 : RO 10 (CT NILV s) = true := RO_of (n := 1000) (by rw [LN_CT, LN_nil]; omega) (by decide) (by decide)
  have hr4 : RO 10 (CT NILV d) = true := RO_of (n := 1000) (by rw [LN_CT, LN_nil]; omega) (by decide) (by decide)
  have hne : (LN s != LN d) = false := by rw [hn]; exact bne_self_eq_false _
  have he := each_is hn hb o k m
  have c0 : neutralO o → (1 ≤ k ∧ k ≤ 12) → (m = 255 ∨ m = 65535) → tz s = true → F_span_valid d m = true → _ := copy_d hd hn o k m
  have c1 := copy_s hs hd hn m
  rw [F_span_Composite_eq, hne, cond_false]
  simp only [hq, hr3, hr4, cond_true, he, pCls hs]
  generalize hX : (bif allI (fun j => (cmp2 o k m (IX s j) (IX d j)).2.2.2.2.2) 0 (LN s) then (bld (fun j => pk6 (cmp2 o k m (IX s j) (IX d j))) 0 (LN s) NILV, true) else (NILV, false)) = X at *
  cases hkn : F_span_known o k m
  · rfl
  · obtain ⟨ho, hk, hm⟩ := known_of hkn
    cases hv : F_span_valid d m
    · rfl
    · simp only [cond_true]
      cases ht : tz s
      · cases hsd : sd s
        · cases hoq : oq m s
          · simp only [clsZ, ht, hsd, hoq, cond_false]
            rfl
          · simp only [clsZ, ht, hsd, hoq, cond_false, cond_true]
            by_cases h4 : o = 4
            · by_cases h1 : k = 1
              · subst h4 h1
                rw [← hX]
                exact c1 hm hoq hv
              · simp only [beq_false_of_ne h1, cond_false, Bool.cond_self]
                rfl
            · simp only [beq_false_of_ne h4, cond_false]
              rfl
        · simp only [clsZ, ht, hsd, cond_false, cond_true]
          rfl
      · simp only [clsZ, ht, cond_true]
        rcases ops12 ho with rfl | rfl | rfl | rfl | rfl | rfl | rfl | rfl | rfl | rfl | rfl | rfl <;> first | exact c0 (by decide) hk hm ht hv | rfl
end
end Go.Proofs.YtfjhhadmncjdiaaGreatDoor

/- The rows that the statements draw: as many valid pixels as asked for. No condition. -/
namespace Go.Proofs.YtfjhhadmncjdiaaGreatDoor
set_option maxRecDepth 100000
open Go.RowKit

theorem kind_SN {κs : List SK} {l : Value} {cs : List Value} (h : inKind (.l κs) l) (hc : KindsL κs cs) (hl : LN l < 9223372036854775807) : inKind (.l κs) (SN l cs) := by
  obtain ⟨es, rfl, h1, h2, h3⟩ := list_eq h
  simp only [inKind]
  refine ⟨_, rfl, ?_, fun e he => ?_⟩
  · rw [LN_agg] at hl
    simp only [h1, List.length_append, List.length_cons, List.length_nil]
    omega
  · rw [h1] at he
    rcases List.mem_append.1 he with he | he
    · exact h3 e he
    · exact ⟨cs, by simpa using he, hc⟩
theorem kind_i {k : IntKind} {n : Int} (h0 : k.min ≤ n) (h1 : n ≤ k.max) : inKind (.i k) (.int k n) := (inKind_pl (κ := .i k) rfl).2 ⟨n, rfl, h0, h1⟩
theorem kind_u16 {n : Int} (h : Is16 n) : inKind (.i .u16) (.int .u16 n) := kind_i h.1 h.2
theorem kinds_px {a b c d e : Int} (h : P16 a b c d e) : KindsL PX [.int .u16 a, .int .u16 b, .int .u16 c, .int .u16 d, .int .u16 e] := by
  simp only [KindsL]
  exact ⟨_, _, rfl, kind_u16 h.c0, _, _, rfl, kind_u16 h.c1, _, _, rfl, kind_u16 h.c2, _, _, rfl, kind_u16 h.a, _, _, rfl, kind_u16 h.f, rfl⟩
/-- A row of valid pixels. -/
def PVe (m : Int) (e : Value) : Prop := PV (C1 e) (C2 e) (C3 e) (C4 e) (C5 e) m
def VR (m : Int) (x : Value) : Prop := inKind (.l PX) x ∧ ∀ j, 0 ≤ j → j < LN x → PVe m (IX x j)
theorem VR.nil {m : Int} : VR m NILV := ⟨kind_nil, fun j h0 h1 => by rw [LN_nil] at h1; omega⟩
theorem VR.snoc {m : Int} {x : Value} (h : VR m x) (hm : m ≤ 65535) {a b c d e : Int} (p : PV a b c d e m) (hl : LN x < 9223372036854775807) : VR m (SN x [.int .u16 a, .int .u16 b, .int .u16 c, .int .u16 d, .int .u16 e]) := by
  refine ⟨kind_SN h.1 (kinds_px (p.p16 hm)) hl, fun j h0 h1 => ?_⟩
  rw [LN_SN] at h1
  by_cases e : j = LN x
  · subst e
    rw [IX_SN_last]
    exact p
  · rw [IX_SN_old _ h0 (by omega)]
    exact h.2 j h0 (by omega)
/-- A row of samples up to m. -/
def MR (m : Int) (x : Value) : Prop := inKind (.l [.i .u16]) x ∧ ∀ j, 0 ≤ j → j < LN x → 0 ≤ C1 (IX x j) ∧ C1 (IX x j) ≤ m
theorem MR.nil {m : Int} : MR m NILV := ⟨kind_nil, fun j h0 h1 => by rw [LN_nil] at h1; omega⟩
theorem MR.snoc {m : Int} {x : Value} (h : MR m x) {v : Int} (v0 : 0 ≤ v) (v1 : v ≤ m) (hm : m ≤ 65535) (hl : LN x < 9223372036854775807) : MR m (SN x [.int .u16 v]) := by
  refine ⟨kind_SN h.1 (by simp only [KindsL]; exact ⟨_, _, rfl, kind_u16 ⟨v0, Int.le_trans v1 hm⟩, rfl⟩) hl, fun j h0 h1 => ?_⟩
  rw [LN_SN] at h1
  by_cases e : j = LN x
  · subst e
    rw [IX_SN_last]
    exact ⟨v0, v1⟩
  · rw [IX_SN_old _ h0 (by omega)]
    exact h.2 j h0 (by omega)
theorem bifE {α : Type} {c : Bool} {a b : α} {p : α → Prop} (h1 : c = true → p a) (h2 : c = false → p b) : p (bif c then a else b) := by
  cases c with
  | true => exact h1 rfl
  | false => exact h2 rfl
theorem pre_comp {o k m : Int} {s d : Value} (hs : LN s ≤ 1000) (hd : LN d ≤ 1000) : pre_span_Composite [.int .i64 o, .int .i64 k, .int .u16 m, s, d] = true := by
  show (decide (LN s ≤ 1000) && decide (LN d ≤ 1000)) = true
  simp only [Bool.and_eq_true, decide_eq_true_eq]
  exact ⟨hs, hd⟩
theorem pre_scal {o m : Int} {s k : Value} (hs : LN s ≤ 1000) : pre_span_Scale [s, k, .int .u16 o, .int .u16 m] = true := decide_eq_true hs
theorem pre_resu {m : Int} {a b : Value} (ha : LN a ≤ 1000) : pre_span_Result [a, b, .int .u16 m] = true := decide_eq_true ha
theorem pre_step {t : Bool} {o k m : Int} {s a b : Value} (hs : LN s ≤ 1000) : pre_span_Step [.bool t, .int .i64 o, .int .i64 k, .int .u16 m, s, a, b] = true := decide_eq_true hs
theorem pre_pixels {m n mood : Int} {l : Value} (hn : n ≤ 1000) (h0 : 0 ≤ n) : pre_gen_Pixels [.int .i64 mood, l, .int .i64 n, .int .u16 m] = true := by
  show (decide (0 ≤ n) && decide (n ≤ 1000)) = true
  simp only [Bool.and_eq_true, decide_eq_true_eq]
  exact ⟨h0, hn⟩
section
variable {m n mood : Int} {l : Value} (m0 : 0 ≤ m) (m1 : m ≤ 65535) (hn : n ≤ 1000)
include m0 m1 hn
set_option maxHeartbeats 2000000 in
theorem pixels_loop : ∀ i, 0 ≤ i → i ≤ n → ∀ out, VR m out → LN out = i → ∃ x, LF_gen_Pixels_3 [.int .i64 n, .int .u16 m, .int .i64 i, .int .i64 mood, l, out] = [.int .i64 0, x] ∧ VR m x ∧ LN x = n :=
  up_to (fun i h0 h1 ih out hv hl => by
    have w1 : IntKind.i64.wrap (i + 1) = i + 1 := i64_in (by omega) (by omega)
    have ro : ∀ cs, RO 10 (SN out cs) = true := fun cs => RO_of (n := 1001) (by rw [LN_SN]; omega) (by decide) (by decide)
    have nx : ∀ {a b c d e : Int}, PV a b c d e m → ∃ x, goOn LF_gen_Pixels_3 [.int .i64 (-1), .int .i64 n, .int .u16 m, .int .i64 (i + 1), .int .i64 mood, l, SN out [.int .u16 a, .int .u16 b, .int .u16 c, .int .u16 d, .int .u16 e]] = [.int .i64 0, x] ∧ VR m x ∧ LN x = n := fun p => by
      rw [goOn_next]
      exact ih _ (hv.snoc m1 p (by omega)) (by rw [LN_SN]; omega)
    have g := fun x y z v w => gPixelV x y z v w m0 m1
    have full : ∀ {a b c d e : Int}, PV a b c d e m → PV a b c m m m := fun p => ⟨p.l0, p.l1, p.l2, Int.le_trans p.u0 (Int.le_trans p.af p.fm), Int.le_trans p.u1 (Int.le_trans p.af p.fm), Int.le_trans p.u2 (Int.le_trans p.af p.fm), Int.le_refl _, Int.le_refl _⟩
    rw [LF_gen_Pixels_3_go]
    unfold OUT_gen_Pixels_3
    rw [decide_eq_true h1]
    simp only [w1, ro, cond_true]
    have first : LN out > 0 → INB out 0 = true := fun h => INB_of (Int.le_refl 0) h
    have f0 : LN out > 0 → PV (num (CV (IX out 0) 0)) (num (CV (IX out 0) 1)) (num (CV (IX out 0) 2)) (num (CV (IX out 0) 3)) (num (CV (IX out 0) 4)) m := fun h => hv.2 0 (Int.le_refl 0) h
    have k0 : 0 ≤ Int.tmod i (LN l) := Int.tmod_nonneg _ h0
    by_cases hL : LN l > 0
    · have k1 : Int.tmod i (LN l) < LN l := Int.tmod_lt_of_pos _ hL
      have kb : INB l (Int.tmod i (LN l)) = true := INB_of k0 k1
      have kz : (LN l == 0) = false := beq_false_of_ne (by omega)
      rw [decide_eq_true hL, decide_eq_true k1, kb, kz]
      simp only [cond_true, cond_false]
      by_cases hO : LN out > 0
      · rw [decide_eq_true hO, first hO]
        simp only [cond_true]
        repeat' (first | refine bifE (p := fun o => ∃ x, goOn LF_gen_Pixels_3 o = [.int .i64 0, x] ∧ VR m x ∧ LN x = n) (fun _ => ?_) (fun _ => ?_) | exact nx (PV.zero m0) | exact nx (full (g _ _ _ _ _)) | exact nx (f0 hO) | exact nx (g _ _ _ _ _))
      · rw [decide_eq_false hO]
        simp only [cond_false]
        repeat' (first | refine bifE (p := fun o => ∃ x, goOn LF_gen_Pixels_3 o = [.int .i64 0, x] ∧ VR m x ∧ LN x = n) (fun _ => ?_) (fun _ => ?_) | exact nx (PV.zero m0) | exact nx (full (g _ _ _ _ _)) | exact nx (g _ _ _ _ _))
    · have kl : ¬ i < LN l := by omega
      rw [decide_eq_false hL]
      simp only [cond_false, decide_eq_false kl]
      by_cases hO : LN out > 0
      · rw [decide_eq_true hO, first hO]
        simp only [cond_true]
        repeat' (first | refine bifE (p := fun o => ∃ x, goOn LF_gen_Pixels_3 o = [.int .i64 0, x] ∧ VR m x ∧ LN x = n) (fun _ => ?_) (fun _ => ?_) | exact nx (PV.zero m0) | exact nx (full (g _ _ _ _ _)) | exact nx (f0 hO) | exact nx (g _ _ _ _ _))
      · rw [decide_eq_false hO]
        simp only [cond_false]
        repeat' (first | refine bifE (p := fun o => ∃ x, goOn LF_gen_Pixels_3 o = [.int .i64 0, x] ∧ VR m x ∧ LN x = n) (fun _ => ?_) (fun _ => ?_) | exact nx (PV.zero m0) | exact nx (full (g _ _ _ _ _)) | exact nx (g _ _ _ _ _))) (fun out hv hl => by
    rw [LF_gen_Pixels_3_go]
    unfold OUT_gen_Pixels_3
    rw [decide_eq_false (by omega)]
    exact ⟨out, rfl, hv, hl⟩)
theorem gPixels (h0 : 0 ≤ n) : VR m (F_gen_Pixels mood l n m) ∧ LN (F_gen_Pixels mood l n m) = n := by
  obtain ⟨x, e, h⟩ := pixels_loop (mood := mood) (l := l) m0 m1 hn 0 (Int.le_refl 0) h0 NILV VR.nil LN_nil
  have hp : pre_gen_Pixels_3 [.int .i64 n, .int .u16 m, .int .i64 0, .int .i64 mood, l, NILV] = true := by
    show (decide ((0 : Int) ≤ 0) && decide (0 ≤ n) && decide (LN NILV = 0) && decide (n ≤ 1000)) = true
    simp only [Bool.and_eq_true, decide_eq_true_eq]
    exact ⟨⟨⟨Int.le_refl 0, h0⟩, LN_nil⟩, hn⟩
  rw [F_gen_Pixels_eq, hp, cond_true, e]
  exact h
end
end Go.Proofs.YtfjhhadmncjdiaaGreatDoor
