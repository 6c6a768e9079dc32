/- Slices, told by their elements: words for what the evaluator tells, and what loops over them compute. No condition. -/
import Derived.Test.YtfjhhadmncjdiaaGreatDoorEvB
namespace Go.Proofs.YtfjhhadmncjdiaaGreatDoor
open Go.RowKit

def LN (l : Value) : Int := ((els l).length : Int)
def INB (l : Value) (i : Int) : Bool := decide (0 ≤ i) && decide (i < ((els l).length : Int))
def IX (l : Value) (i : Int) : Value := (els l).getD i.toNat undef
def CV (y : Value) (j : Nat) : Value := (els y).getD j undef
def NILV : Value := .agg #[]
def TK (l : Value) (k : Int) : Value := .agg ((els l).take k.toNat).toArray
def TKB (l : Value) (h : Int) : Bool := decide (0 ≤ h) && decide (h ≤ ((els l).length : Int))
def SN (l : Value) (cs : List Value) : Value := .agg (els l ++ [Value.agg cs.toArray]).toArray
def CT (l m : Value) : Value := .agg (els l ++ els m).toArray
def PK (cs : List Value) : Value := .agg cs.toArray
def ST (off : Nat) (l : Value) (i : Int) (cs : List Value) : Value := .agg ((els l).set i.toNat (.agg (putV (els ((els l).getD i.toNat undef)) off cs).toArray)).toArray
def RO (bytes : Nat) (l : Value) : Bool := decide ((els l).length * bytes ≤ 140737488355328) && decide ((els l).length ≤ 9223372036854775807)
def MKB (bytes : Nat) (n c : Int) : Bool := decide (0 ≤ n) && decide (n ≤ c) && decide (bytes * c ≤ 140737488355328) && decide (c ≤ 9223372036854775807)
def RP (zs : List Value) (n : Int) : Value := .agg (List.replicate n.toNat (.agg zs.toArray)).toArray
def LSV (k n : Nat) (vs : List Value) : Value := .agg (chunkV k n vs).toArray
def IXT (l : List Value) (i : Nat) : Bool := tru ((isX (fun _ => l) i []).getD 0 undef)

theorem LN_nil : LN NILV = 0 := rfl
theorem num_int (k : IntKind) (n : Int) : num (.int k n) = n := rfl
theorem LN_nonneg (l : Value) : 0 ≤ LN l := Int.natCast_nonneg _
theorem els_toArray (es : List Value) : els (.agg es.toArray) = es := by simp [els]
theorem els_SN (l : Value) (cs : List Value) : els (SN l cs) = els l ++ [.agg cs.toArray] := els_toArray _
theorem LN_SN (l : Value) (cs : List Value) : LN (SN l cs) = LN l + 1 := by simp [LN, els_SN]
theorem LN_CT (l m : Value) : LN (CT l m) = LN l + LN m := by simp [LN, CT, els_toArray]
theorem INB_iff {l : Value} {i : Int} : INB l i = true ↔ 0 ≤ i ∧ i < LN l := by simp [INB, LN]
theorem INB_of {l : Value} {i : Int} (h0 : 0 ≤ i) (h1 : i < LN l) : INB l i = true := INB_iff.2 ⟨h0, h1⟩
theorem IX_agg (es : List Value) (i : Int) : IX (.agg es.toArray) i = es.getD i.toNat undef := by simp [IX, els_toArray]
theorem LN_agg (es : List Value) : LN (.agg es.toArray) = es.length := by simp [LN, els_toArray]
theorem CV_agg (es : List Value) (j : Nat) : CV (.agg es.toArray) j = es.getD j undef := by simp [CV, els_toArray]
theorem IX_SN_last (l : Value) (cs : List Value) : IX (SN l cs) (LN l) = .agg cs.toArray := by simp [IX, els_SN, LN]
theorem IX_SN_old {l : Value} (cs : List Value) {i : Int} (h0 : 0 ≤ i) (h1 : i < LN l) : IX (SN l cs) i = IX l i := by
  have : i.toNat < (els l).length := by simp only [LN] at h1; omega
  simp only [IX, els_SN]
  simp [List.getD, List.getElem?_append_left this]
theorem IX_TK {l : Value} {k i : Int} (h0 : 0 ≤ i) (h1 : i < k) : IX (TK l k) i = IX l i := by
  have : i.toNat < k.toNat := by omega
  simp only [IX, TK, els_toArray]
  simp [List.getD, this]
theorem LN_TK {l : Value} {k : Int} (h0 : 0 ≤ k) (h1 : k ≤ LN l) : LN (TK l k) = k := by
  simp only [LN, TK, els_toArray, List.length_take] at h1 ⊢
  omega
theorem TKB_of {l : Value} {h : Int} (h0 : 0 ≤ h) (h1 : h ≤ LN l) : TKB l h = true := by simp only [LN] at h1; simp [TKB, h0, h1]

/-- A slice's data is told by its elements. -/
theorem list_eq {κs : List SK} {l : Value} (h : inKind (.l κs) l) : ∃ es : List Value, l = .agg es.toArray ∧ els l = es ∧ es.length ≤ 9223372036854775807 ∧ ∀ e ∈ es, ∃ cs : List Value, e = .agg cs.toArray ∧ KindsL κs cs := by
  simp only [inKind] at h
  obtain ⟨es, rfl, h1, h2⟩ := h
  exact ⟨es, rfl, els_toArray es, h1, h2⟩
theorem LN_le {κs : List SK} {l : Value} (h : inKind (.l κs) l) : LN l ≤ 9223372036854775807 := by
  obtain ⟨es, rfl, h1, h2, _⟩ := list_eq h
  rw [LN, h1]
  omega
theorem elem_kinds {κs : List SK} {l : Value} (h : inKind (.l κs) l) {i : Int} (h0 : 0 ≤ i) (h1 : i < LN l) : ∃ cs : List Value, IX l i = .agg cs.toArray ∧ KindsL κs cs := by
  obtain ⟨es, rfl, he, _, h2⟩ := list_eq h
  have hlt : i.toNat < es.length := by rw [LN, he] at h1; omega
  obtain ⟨cs, e1, e2⟩ := h2 es[i.toNat] (List.getElem_mem hlt)
  refine ⟨cs, ?_, e2⟩
  rw [IX, he, List.getD, List.getElem?_eq_getElem hlt]
  exact e1
theorem els_inj {κs : List SK} {a b : Value} (ha : inKind (.l κs) a) (hb : inKind (.l κs) b) (h : els a = els b) : a = b := by
  obtain ⟨es, rfl, h1, _⟩ := list_eq ha
  obtain ⟨fs, rfl, h2, _⟩ := list_eq hb
  rw [← h1, ← h2, h]
theorem list_ext {κs : List SK} {a b : Value} (ha : inKind (.l κs) a) (hb : inKind (.l κs) b) (hl : LN a = LN b) (h : ∀ i, 0 ≤ i → i < LN a → IX a i = IX b i) : a = b := by
  refine els_inj ha hb (List.ext_getElem? fun i => ?_)
  have hl' : (els a).length = (els b).length := by simp only [LN] at hl; omega
  rcases Nat.lt_or_ge i (els a).length with q | q
  · have := h i (by omega) (by simp only [LN]; omega)
    simp only [IX, Int.toNat_natCast, List.getD, List.getElem?_eq_getElem q, List.getElem?_eq_getElem (show i < (els b).length by omega), Option.getD_some] at this
    rw [List.getElem?_eq_getElem q, List.getElem?_eq_getElem (show i < (els b).length by omega), this]
  · rw [List.getElem?_eq_none q, List.getElem?_eq_none (by omega)]

/-! For all i up to n. -/
def allI (q : Int → Bool) (i n : Int) : Bool := (List.range (n - i).toNat).all fun k : Nat => q (i + (k : Int))
theorem allI_end {q : Int → Bool} {i n : Int} (h : n ≤ i) : allI q i n = true := by
  have : (n - i).toNat = 0 := by omega
  simp [allI, this]
theorem allI_iff {q : Int → Bool} {i n : Int} : allI q i n = true ↔ ∀ j, i ≤ j → j < n → q j = true := by
  simp only [allI, List.all_eq_true, List.mem_range]
  constructor
  · intro h j h0 h1
    have := h (j - i).toNat (by omega)
    rwa [show i + ((j - i).toNat : Int) = j by omega] at this
  · intro h k hk
    exact h _ (by omega) (by omega)
theorem allI_step {q : Int → Bool} {i n : Int} (h : i < n) : allI q i n = (q i && allI q (i + 1) n) := by
  rw [Bool.eq_iff_iff, Bool.and_eq_true, allI_iff, allI_iff]
  constructor
  · exact fun k => ⟨k i (Int.le_refl _) h, fun j h0 h1 => k j (by omega) h1⟩
  · intro ⟨k0, k1⟩ j h0 h1
    by_cases e : j = i
    · subst e; exact k0
    · exact k1 j (by omega) h1
theorem allI_congr {q q' : Int → Bool} {i n : Int} (h : ∀ j, i ≤ j → j < n → q j = q' j) : allI q i n = allI q' i n := by
  rw [Bool.eq_iff_iff, allI_iff, allI_iff]
  exact ⟨fun k j h0 h1 => by rw [← h j h0 h1]; exact k j h0 h1, fun k j h0 h1 => by rw [h j h0 h1]; exact k j h0 h1⟩
/-! A slice that grows from i up to n. -/
def bld (g : Int → List Value) (i n : Int) (out : Value) : Value := .agg (els out ++ (List.range (n - i).toNat).map (fun k : Nat => Value.agg (g (i + (k : Int))).toArray)).toArray
theorem bld_end {g : Int → List Value} {i n : Int} {out : Value} {κs : List SK} (hk : inKind (.l κs) out) (h : n ≤ i) : bld g i n out = out := by
  have : (n - i).toNat = 0 := by omega
  obtain ⟨es, rfl, h1, _⟩ := list_eq hk
  simp [bld, this, h1]
theorem bld_step {g : Int → List Value} {i n : Int} {out : Value} (h : i < n) : bld g i n out = bld g (i + 1) n (SN out (g i)) := by
  have e : (n - i).toNat = (n - (i + 1)).toNat + 1 := by omega
  simp only [bld, els_SN, e, List.range_succ_eq_map, List.map_cons, List.map_map, List.append_assoc, List.singleton_append]
  congr 4
  · simp
  · apply List.map_congr_left
    intro k _
    show Value.agg (g (i + ((k + 1 : Nat) : Int))).toArray = Value.agg (g (i + 1 + (k : Int))).toArray
    congr 3
    omega
theorem LN_bld {g : Int → List Value} {i n : Int} {out : Value} (h : i ≤ n) : LN (bld g i n out) = LN out + (n - i) := by
  simp only [LN, bld, els_toArray, List.length_append, List.length_map, List.length_range]
  omega
theorem IX_bld {g : Int → List Value} {i n j : Int} {out : Value} (h0 : LN out ≤ j) (h1 : j < LN out + (n - i)) : IX (bld g i n out) j = .agg (g (i + (j - LN out))).toArray := by
  simp only [LN] at h0 h1 ⊢
  simp only [IX, bld, els_toArray, List.getD]
  rw [List.getElem?_append_right (by omega), List.getElem?_map, List.getElem?_range (by omega)]
  simp only [Option.map_some, Option.getD_some]
  congr 4
  omega
theorem IX_bld_old {g : Int → List Value} {i n j : Int} {out : Value} (h0 : 0 ≤ j) (h1 : j < LN out) : IX (bld g i n out) j = IX out j := by
  simp only [LN] at h1
  simp only [IX, bld, els_toArray, List.getD]
  rw [List.getElem?_append_left (by omega)]
theorem bld_congr {g g' : Int → List Value} {i n : Int} {out : Value} (h : ∀ j, i ≤ j → j < n → g j = g' j) : bld g i n out = bld g' i n out := by
  simp only [bld]
  congr 3
  apply List.map_congr_left
  intro k hk
  rw [List.mem_range] at hk
  rw [h _ (by omega) (by omega)]
theorem kind_bld {κs : List SK} {g : Int → List Value} {i n : Int} {out : Value} (ho : inKind (.l κs) out) (hg : ∀ j, i ≤ j → j < n → KindsL κs (g j)) (hl : LN out + (n - i) ≤ 9223372036854775807) : inKind (.l κs) (bld g i n out) := by
  obtain ⟨es, rfl, h1, h2, h3⟩ := list_eq ho
  simp only [inKind]
  refine ⟨_, rfl, ?_, fun e he => ?_⟩
  · simp only [LN, h1] at hl
    simp only [h1, List.length_append, List.length_map, List.length_range]
    omega
  · rw [h1] at he
    rcases List.mem_append.1 he with he | he
    · exact h3 e he
    · obtain ⟨k, hk, rfl⟩ := List.mem_map.1 he
      rw [List.mem_range] at hk
      exact ⟨_, rfl, hg _ (by omega) (by omega)⟩
theorem kind_nil {κs : List SK} : inKind (.l κs) NILV := by
  simp only [inKind]
  exact ⟨[], rfl, by simp, fun e he => by simp at he⟩
theorem RO_of {bytes : Nat} {l : Value} {n : Nat} (h : LN l ≤ n) (hb : n * bytes ≤ 140737488355328) (hn : n ≤ 9223372036854775807) : RO bytes l = true := by
  simp only [LN] at h
  have h' : (els l).length ≤ n := by omega
  have := Nat.mul_le_mul_right bytes h'
  simp only [RO, Bool.and_eq_true, decide_eq_true_eq]
  omega
theorem i64_in {x : Int} (h0 : -9223372036854775808 ≤ x) (h1 : x ≤ 9223372036854775807) : IntKind.i64.wrap x = x := by
  rw [IntKind.wrap_i64]
  omega
theorem up_in {κs : List SK} {l : Value} (h : inKind (.l κs) l) {i : Int} (h0 : 0 ≤ i) (h1 : i < LN l) : IntKind.i64.wrap (i + 1) = i + 1 := by
  have := LN_le h
  exact i64_in (by omega) (by omega)
/-- A told loop, from its rounds' text. -/
theorem loop_of {P : Program} {I : World → Prop} {M : Env} {S : List Sum} (hE : EnvOK P I M ∧ AllOK P I S) (n : Nat) (c : LoopC) (h1 : (loopsBy P c.f c.key).length = 1) (meas : List Value → Nat) (out : List Value → List Value)
    (hout : ∀ xs, KindsL c.head.kinds xs → c.pre xs = true → (evL M P S n c xs).outL = out xs) (hok : ∀ xs, KindsL c.head.kinds xs → c.pre xs = true → (evL M P S n c xs).ok = true)
    (hr : ∀ xs, KindsL c.head.kinds xs → c.pre xs = true → (∃ ys, out xs = .int .i64 (-1) :: ys ∧ c.pre ys = true ∧ meas ys < meas xs ∧ c.F ys = c.F xs) ∨ (∃ (i : Nat) (ys : List Value), out xs = .int .i64 i :: ys ∧ c.F xs = out xs)) : LoopTrue P I c :=
  loop_true hE.1 hE.2 n c h1 meas fun xs hk hp => ⟨hok xs hk hp, by rw [hout xs hk hp]; exact hr xs hk hp⟩
/-! A loop, told by its rounds. -/
def nextOf : List Value → Option (List Value)
  | .int .i64 (.negSucc 0) :: ys => some ys
  | _ => none
def goOn (F : List Value → List Value) (o : List Value) : List Value := match nextOf o with | some ys => F ys | none => o
theorem goOn_next (F : List Value → List Value) (ys : List Value) : goOn F (.int .i64 (-1) :: ys) = F ys := rfl
theorem goOn_exit (F : List Value → List Value) (i : Nat) (ys : List Value) : goOn F (.int .i64 (i : Int) :: ys) = .int .i64 (i : Int) :: ys := rfl
theorem goOn_bif (F : List Value → List Value) (c : Bool) (a b : List Value) : goOn F (bif c then a else b) = bif c then goOn F a else goOn F b := by cases c <;> rfl
def iter? (out : List Value → List Value) : Nat → List Value → Option (List Value)
  | 0, _ => none
  | k + 1, xs => match nextOf (out xs) with | some ys => iter? out k ys | none => some (out xs)
noncomputable def LFof (out : List Value → List Value) (xs : List Value) : List Value := Classical.epsilon fun r => ∃ k, iter? out k xs = some r
theorem LFof_next {out : List Value → List Value} {xs ys : List Value} (h : nextOf (out xs) = some ys) : LFof out xs = LFof out ys := by
  unfold LFof
  congr 1
  funext r
  apply propext
  constructor
  · rintro ⟨k, hk⟩
    cases k with
    | zero => simp [iter?] at hk
    | succ k => rw [iter?, h] at hk; exact ⟨k, hk⟩
  · rintro ⟨k, hk⟩
    exact ⟨k + 1, by rw [iter?, h]; exact hk⟩
theorem LFof_exit {out : List Value → List Value} {xs : List Value} (h : nextOf (out xs) = none) : LFof out xs = out xs := by
  have he : ∃ r, ∃ k, iter? out k xs = some r := ⟨out xs, 1, by rw [iter?, h]⟩
  obtain ⟨k, hk⟩ := Classical.epsilon_spec he
  change iter? out k xs = some (LFof out xs) at hk
  cases k with
  | zero => simp [iter?] at hk
  | succ k => rw [iter?, h] at hk; exact (Option.some.inj hk).symm
theorem LFof_eq (out : List Value → List Value) (xs : List Value) : LFof out xs = goOn (LFof out) (out xs) := by
  unfold goOn
  cases h : nextOf (out xs) with
  | some ys => exact LFof_next h
  | none => exact LFof_exit h
def okO (pre : List Value → Bool) (meas : List Value → Nat) (m : Nat) (o : List Value) : Prop := (∃ ys, o = .int .i64 (-1) :: ys ∧ pre ys = true ∧ meas ys < m) ∨ ∃ (i : Nat) (ys : List Value), o = .int .i64 i :: ys
theorem okO_next {pre : List Value → Bool} {meas : List Value → Nat} {m : Nat} {ys : List Value} (h : pre ys = true) (hm : meas ys < m) : okO pre meas m (.int .i64 (-1) :: ys) := .inl ⟨ys, rfl, h, hm⟩
theorem okO_exit {pre : List Value → Bool} {meas : List Value → Nat} {m : Nat} (i : Nat) {ys : List Value} : okO pre meas m (.int .i64 (i : Int) :: ys) := .inr ⟨i, ys, rfl⟩
theorem okO_bif {pre : List Value → Bool} {meas : List Value → Nat} {m : Nat} {c : Bool} {a b : List Value} (ha : c = true → okO pre meas m a) (hb : c = false → okO pre meas m b) : okO pre meas m (bif c then a else b) := by
  cases c with
  | true => exact ha rfl
  | false => exact hb rfl
theorem bif_ok {c a b : Bool} (ha : c = true → a = true) (hb : c = false → b = true) : (bif c then a else b) = true := by
  cases c with
  | true => exact ha rfl
  | false => exact hb rfl
theorem nextOf_exit {xs : List Value} {i : Nat} {ys : List Value} (h : xs = .int .i64 (i : Int) :: ys) : nextOf xs = none := by subst h; rfl
theorem loop_lf {P : Program} {I : World → Prop} {M : Env} {S : List Sum} (hE : EnvOK P I M ∧ AllOK P I S) (n : Nat) (c : LoopC) (h1 : (loopsBy P c.f c.key).length = 1) (meas : List Value → Nat) (out : List Value → List Value) (hF : c.F = LFof out)
    (h : ∀ xs, KindsL c.head.kinds xs → c.pre xs = true → (evL M P S n c xs).ok = true ∧ (evL M P S n c xs).outL = out xs ∧ okO c.pre meas (meas xs) (out xs)) : LoopTrue P I c :=
  loop_of hE n c h1 meas out (fun xs hk hp => (h xs hk hp).2.1) (fun xs hk hp => (h xs hk hp).1) fun xs hk hp => by
    rcases (h xs hk hp).2.2 with ⟨ys, e, e1, e2⟩ | ⟨i, ys, e⟩
    · exact .inl ⟨ys, e, e1, e2, by rw [hF]; exact (LFof_next (by rw [e]; rfl)).symm⟩
    · exact .inr ⟨i, ys, e, by rw [hF]; exact LFof_exit (nextOf_exit e)⟩
end Go.Proofs.YtfjhhadmncjdiaaGreatDoor
