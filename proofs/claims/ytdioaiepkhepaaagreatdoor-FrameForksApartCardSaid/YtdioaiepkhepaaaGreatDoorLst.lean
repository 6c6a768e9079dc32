/- Slices, told by their elements: words for what the evaluator tells, and what loops over them compute. No condition. -/
import Derived.Test.YtdioaiepkhepaaaGreatDoorEvB
namespace Go.Proofs.YtdioaiepkhepaaaGreatDoor
open Go.RowKit
def LN (l : Value) : Int := ((els l).length : Int)
def INB (l : Value) (i : Int) : Bool := decide (0 ≤ i) && decide (i < ((els l).length : Int))
def IX (l : Value) (i : Int) : Value := (els l).getD i.toNat undef
def CV (y : Value) (j : Nat) : Value := (els y).getD j undef
def NILV : Value := .agg #[]
def TK (l : Value) (k : Int) : Value := .agg ((els l).take k.toNat).toArray
def TKB (l : Value) (h : Int) : Bool := decide (0 ≤ h) && decide (h ≤ ((els l).length : Int))
def SN (l : Value) (cs : List Value) : Value := .agg (els l ++ [Value.agg cs.toArray]).toArray
def CT (l m : Value) : Value := .agg (els l ++ els m).toArray
def PK (cs : List Value) : Value := .agg cs.toArray
def ST (off : Nat) (l : Value) (i : Int) (cs : List Value) : Value := .agg ((els l).set i.toNat (.agg (putV (els ((els l).getD i.toNat undef)) off cs).toArray)).toArray
def RO (bytes : Nat) (l : Value) : Bool := decide ((els l).length * bytes ≤ 140737488355328) && decide ((els l).length ≤ 9223372036854775807)
def LSV (k n : Nat) (vs : List Value) : Value := .agg (chunkV k n vs).toArray
def IXT (l : List Value) (i : Nat) : Bool := tru ((isX (fun _ => l) i []).getD 0 undef)
theorem LN_nil : LN NILV = 0 := rfl
theorem num_int (k : IntKind) (n : Int) : num (.int k n) = n := rfl
theorem els_toArray (es : List Value) : els (.agg es.toArray) = es := by simp [els]
theorem els_SN (l : Value) (cs : List Value) : els (SN l cs) = els l ++ [.agg cs.toArray] := els_toArray _
theorem LN_SN (l : Value) (cs : List Value) : LN (SN l cs) = LN l + 1 := by simp [LN, els_SN]
theorem LN_CT (l m : Value) : LN (CT l m) = LN l + LN m := by simp [LN, CT, els_toArray]
theorem INB_iff {l : Value} {i : Int} : INB l i = true ↔ 0 ≤ i ∧ i < LN l := by simp [INB, LN]
theorem INB_of {l : Value} {i : Int} (h0 : 0 ≤ i) (h1 : i < LN l) : INB l i = true := INB_iff.2 ⟨h0, h1⟩
theorem LN_agg (es : List Value) : LN (.agg es.toArray) = es.length := by simp [LN, els_toArray]
theorem IX_SN_last (l : Value) (cs : List Value) : IX (SN l cs) (LN l) = .agg cs.toArray := by simp [IX, els_SN, LN]
theorem LN_TK {l : Value} {k : Int} (h0 : 0 ≤ k) (h1 : k ≤ LN l) : LN (TK l k) = k := by
 simp only [LN, TK, els_toArray, List.length_take] at h1 ⊢
 omega
theorem TKB_of {l : Value} {h : Int} (h0 : 0 ≤ h) (h1 : h ≤ LN l) : TKB l h = true := by simp only [LN] at h1; simp [TKB, h0, h1]
theorem list_eq {κs : List SK} {l : Value} (h : inKind (.l κs) l) : ∃ es : List Value, l = .agg es.toArray ∧ els l = es ∧ es.length ≤ 9223372036854775807 ∧ ∀ e ∈ es, ∃ cs : List Value, e = .agg cs.toArray ∧ KindsL κs cs := by
 simp only [inKind] at h
 obtain ⟨es, rfl, h1, h2⟩ := h
 exact ⟨es, rfl, els_toArray es, h1, h2⟩
theorem elem_kinds {κs : List SK} {l : Value} (h : inKind (.l κs) l) {i : Int} (h0 : 0 ≤ i) (h1 : i < LN l) : ∃ cs : List Value, IX l i = .agg cs.toArray ∧ KindsL κs cs := by
 obtain ⟨es, rfl, he, _, h2⟩ := list_eq h
 have hlt : i.toNat < es.length := by rw [LN, he] at h1; omega
 obtain ⟨cs, e1, e2⟩ := h2 es[i.toNat] (List.getElem_mem hlt)
 refine ⟨cs, ?_, e2⟩
 rw [IX, he, List.getD, List.getElem?_eq_getElem hlt]
 exact e1
theorem RO_of {bytes : Nat} {l : Value} {n : Nat} (h : LN l ≤ n) (hb : n * bytes ≤ 140737488355328) (hn : n ≤ 9223372036854775807) : RO bytes l = true := by
 simp only [LN] at h
 have h' : (els l).length ≤ n := by omega
 have := Nat.mul_le_mul_right bytes h'
 simp only [RO, Bool.and_eq_true, decide_eq_true_eq]
 omega
theorem i64_in {x : Int} (h0 : -9223372036854775808 ≤ x) (h1 : x ≤ 9223372036854775807) : IntKind.i64.wrap x = x := by
 rw [IntKind.wrap_i64]
 omega
theorem loop_of {P : Program} {I : World → Prop} {M : Env} {S : List Sum} (hE : EnvOK P I M ∧ AllOK P I S) (n : Nat) (c : LoopC) (h1 : (loopsBy P c.f c.key).length = 1) (meas : List Value → Nat) (out : List Value → List Value)
 (hout : ∀ xs, KindsL c.head.kinds xs → c.pre xs = true → (evL M P S n c xs).outL = out xs) (hok : ∀ xs, KindsL c.head.kinds xs → c.pre xs = true → (evL M P S n c xs).ok = true)
 (hr : ∀ xs, KindsL c.head.kinds xs → c.pre xs = true → (∃ ys, out xs = .int .i64 (-1) :: ys ∧ c.pre ys = true ∧ meas ys < meas xs ∧ c.F ys = c.F xs) ∨ (∃ (i : Nat) (ys : List Value), out xs = .int .i64 i :: ys ∧ c.F xs = out xs)) : LoopTrue P I c :=
 loop_true hE.1 hE.2 n c h1 meas fun xs hk hp => ⟨hok xs hk hp, by rw [hout xs hk hp]; exact hr xs hk hp⟩
def nextOf : List Value → Option (List Value)
 | .int .i64 (.negSucc 0) :: ys => some ys
 | _ => none
def goOn (F : List Value → List Value) (o : List Value) : List Value := match nextOf o with | some ys => F ys | none => o
theorem goOn_next (F : List Value → List Value) (ys : List Value) : goOn F (.int .i64 (-1) :: ys) = F ys := rfl
def iter? (out : List Value → List Value) : Nat → List Value → Option (List Value)
 | 0, _ => none
 | k + 1, xs => match nextOf (out xs) with | some ys => iter? out k ys | none => some (out xs)
noncomputable def LFof (out : List Value → List Value) (xs : List Value) : List Value := Classical.epsilon fun r => ∃ k, iter? out k xs = some r
theorem LFof_next {out : List Value → List Value} {xs ys : List Value} (h : nextOf (out xs) = some ys) : LFof out xs = LFof out ys := by
 unfold LFof
 congr 1
 funext r
 apply propext
 constructor
 ·rintro ⟨k, hk⟩
  cases k with
  | zero => simp [iter?] at hk
  | succ k => rw [iter?, h] at hk; exact ⟨k, hk⟩
 ·rintro ⟨k, hk⟩
  exact ⟨k + 1, by rw [iter?, h]; exact hk⟩
theorem LFof_exit {out : List Value → List Value} {xs : List Value} (h : nextOf (out xs) = none) : LFof out xs = out xs := by
 have he : ∃ r, ∃ k, iter? out k xs = some r := ⟨out xs, 1, by rw [iter?, h]⟩
 obtain ⟨k, hk⟩ := Classical.epsilon_spec he
 change iter? out k xs = some (LFof out xs) at hk
 cases k with
 | zero => simp [iter?] at hk
 | succ k => rw [iter?, h] at hk; exact (Option.some.inj hk).symm
theorem LFof_eq (out : List Value → List Value) (xs : List Value) : LFof out xs = goOn (LFof out) (out xs) := by
 unfold goOn
 cases h : nextOf (out xs) with
 | some ys => exact LFof_next h
 | none => exact LFof_exit h
def okO (pre : List Value → Bool) (meas : List Value → Nat) (m : Nat) (o : List Value) : Prop := (∃ ys, o = .int .i64 (-1) :: ys ∧ pre ys = true ∧ meas ys < m) ∨ ∃ (i : Nat) (ys : List Value), o = .int .i64 i :: ys
theorem okO_next {pre : List Value → Bool} {meas : List Value → Nat} {m : Nat} {ys : List Value} (h : pre ys = true) (hm : meas ys < m) : okO pre meas m (.int .i64 (-1) :: ys) := .inl ⟨ys, rfl, h, hm⟩
theorem okO_exit {pre : List Value → Bool} {meas : List Value → Nat} {m : Nat} (i : Nat) {ys : List Value} : okO pre meas m (.int .i64 (i : Int) :: ys) := .inr ⟨i, ys, rfl⟩
theorem okO_bif {pre : List Value → Bool} {meas : List Value → Nat} {m : Nat} {c : Bool} {a b : List Value} (ha : c = true → okO pre meas m a) (hb : c = false → okO pre meas m b) : okO pre meas m (bif c then a else b) := by
 cases c with
 | true => exact ha rfl
 | false => exact hb rfl
theorem bif_ok {c a b : Bool} (ha : c = true → a = true) (hb : c = false → b = true) : (bif c then a else b) = true := by
 cases c with
 | true => exact ha rfl
 | false => exact hb rfl
theorem nextOf_exit {xs : List Value} {i : Nat} {ys : List Value} (h : xs = .int .i64 (i : Int) :: ys) : nextOf xs = none := by subst h; rfl
theorem loop_lf {P : Program} {I : World → Prop} {M : Env} {S : List Sum} (hE : EnvOK P I M ∧ AllOK P I S) (n : Nat) (c : LoopC) (h1 : (loopsBy P c.f c.key).length = 1) (meas : List Value → Nat) (out : List Value → List Value) (hF : c.F = LFof out)
 (h : ∀ xs, KindsL c.head.kinds xs → c.pre xs = true → (evL M P S n c xs).ok = true ∧ (evL M P S n c xs).outL = out xs ∧ okO c.pre meas (meas xs) (out xs)) : LoopTrue P I c :=
 loop_of hE n c h1 meas out (fun xs hk hp => (h xs hk hp).2.1) (fun xs hk hp => (h xs hk hp).1) fun xs hk hp => by
  rcases (h xs hk hp).2.2 with ⟨ys, e, e1, e2⟩ | ⟨i, ys, e⟩
  ·exact .inl ⟨ys, e, e1, e2, by rw [hF]; exact (LFof_next (by rw [e]; rfl)).symm⟩
  ·exact .inr ⟨i, ys, e, by rw [hF]; exact LFof_exit (nextOf_exit e)⟩
theorem kLc {κ : SK} {κs : List SK} {C : List Value → Prop} (f : ∀ v, inKind κ v → ∀ us, KindsL κs us → C (v :: us)) : ∀ xs, KindsL (κ :: κs) xs → C xs := by
 intro xs h
 simp only [KindsL] at h
 obtain ⟨v, us, rfl, a, b⟩ := h
 exact f v a us b
theorem kLn {C : List Value → Prop} (f : C []) : ∀ xs, KindsL [] xs → C xs := by
 intro xs h
 simp only [KindsL] at h
 exact h ▸ f
theorem kLi {k : IntKind} {κs : List SK} {C : List Value → Prop} (f : ∀ n, k.min ≤ n → n ≤ k.max → ∀ us, KindsL κs us → C (.int k n :: us)) : ∀ xs, KindsL (.i k :: κs) xs → C xs := by
 intro xs h
 simp only [KindsL, inKind] at h
 obtain ⟨v, us, rfl, ⟨n, rfl, a, b⟩, c⟩ := h
 exact f n a b us c
theorem kLb {κs : List SK} {C : List Value → Prop} (f : ∀ n us, KindsL κs us → C (.bool n :: us)) : ∀ xs, KindsL (.b :: κs) xs → C xs := by
 intro xs h
 simp only [KindsL, inKind] at h
 obtain ⟨v, us, rfl, ⟨n, rfl⟩, c⟩ := h
 exact f n us c
end Go.Proofs.YtdioaiepkhepaaaGreatDoor
