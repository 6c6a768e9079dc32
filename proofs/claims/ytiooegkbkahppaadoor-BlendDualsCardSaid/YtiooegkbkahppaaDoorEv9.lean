/- The symbolic evaluator: a region that draws its order is sound. No condition. -/
import Derived.Test.YtiooegkbkahppaaDoorEv8
namespace Go.Proofs.YtiooegkbkahppaaDoor
open Go.RowKit

/-! Small counts. -/
def cnt (L : Nat → Bool) : Nat → Nat
  | 0 => 0
  | n + 1 => cnt L n + (if L n then 0 else 1)
theorem cnt_le (L : Nat → Bool) : ∀ n, cnt L n ≤ n
  | 0 => Nat.le_refl _
  | n + 1 => by have := cnt_le L n; simp only [cnt]; split <;> omega
theorem cnt_zero {L : Nat → Bool} : ∀ {n}, cnt L n = 0 → ∀ j, j < n → L j = true
  | 0, _, j, h => by omega
  | n + 1, h, j, hj => by
    simp only [cnt] at h
    by_cases e : j = n
    · subst e
      cases hL : L j with
      | true => rfl
      | false => simp [hL] at h
    · exact cnt_zero (n := n) (by omega) j (by omega)
theorem cnt_same {L L' : Nat → Bool} : ∀ {n}, (∀ j, j < n → L j = L' j) → cnt L n = cnt L' n
  | 0, _ => rfl
  | n + 1, h => by simp only [cnt]; rw [cnt_same (n := n) fun j hj => h j (by omega), h n (by omega)]
theorem cnt_set {L L' : Nat → Bool} {i : Nat} (hi : L i = false) (hi' : L' i = true) (h : ∀ j, j ≠ i → L' j = L j) : ∀ {n}, i < n → cnt L' n + 1 = cnt L n
  | 0, hn => by omega
  | n + 1, hn => by
    simp only [cnt]
    by_cases e : i = n
    · subst e
      rw [cnt_same (L := L') (L' := L) fun j hj => h j (by omega), hi, hi']
      simp
    · have := cnt_set hi hi' h (n := n) (by omega)
      rw [h n (fun e' => e e'.symm)]
      omega

/-! The checks, read. -/
theorem apartD_spec : ∀ {l : List (Option Tmp)}, apartD l = true → ∀ (i j : Nat) (d : Tmp), l[i]? = some (some d) → l[j]? = some (some d) → i = j
  | [], _, i, j, d, h, _ => by simp at h
  | none :: l, h, i, j, d, hi, hj => by
    cases i with
    | zero => simp at hi
    | succ i => cases j with
      | zero => simp at hj
      | succ j => rw [apartD_spec (l := l) h i j d (by simpa using hi) (by simpa using hj)]
  | some c :: l, h, i, j, d, hi, hj => by
    simp only [apartD, Bool.and_eq_true] at h
    have hn : some c ∉ l := by simpa using h.1
    cases i with
    | zero =>
      simp at hi
      subst hi
      cases j with
      | zero => rfl
      | succ j => exact absurd (List.mem_of_getElem? (by simpa using hj)) hn
    | succ i => cases j with
      | zero =>
        simp at hj
        subst hj
        exact absurd (List.mem_of_getElem? (by simpa using hi)) hn
      | succ j => rw [apartD_spec (l := l) h.2 i j d (by simpa using hi) (by simpa using hj)]

theorem slotsOk_spec {lk : List Tmp} {i m : Nat} : ∀ {l : List (Option Tmp)} {k : Nat}, slotsOk lk i m k l = true → ∀ (j : Nat) (d : Tmp), l[j]? = some (some d) → d ∈ lk → k + j < i ∧ m.testBit (k + j) = true
  | [], _, _, j, d, h, _ => by simp at h
  | none :: l, k, h, j, d, hj, hd => by
    cases j with
    | zero => simp at hj
    | succ j =>
      have := slotsOk_spec (l := l) (k := k + 1) h j d (by simpa using hj) hd
      rwa [show k + 1 + j = k + (j + 1) by omega] at this
  | some c :: l, k, h, j, d, hj, hd => by
    simp only [slotsOk, Bool.and_eq_true] at h
    cases j with
    | zero =>
      simp at hj
      subst hj
      have h1 := h.1
      simp only [Bool.or_eq_true, Bool.and_eq_true] at h1
      rcases h1 with h1 | ⟨h1, h2⟩
      · have : lk.contains c = true := by simpa using hd
        rw [this] at h1
        exact Bool.noConfusion h1
      · refine ⟨?_, h2⟩
        have := Nat.le_of_ble_eq_true h1
        exact this
    | succ j =>
      have := slotsOk_spec (l := l) (k := k + 1) h.2 j d (by simpa using hj) hd
      rwa [show k + 1 + j = k + (j + 1) by omega] at this

/-- The bits of the masks lie in every set that is closed under 'hangs on'. -/
def MaskIn (D : Nat → Prop) (acc : List Nat) : Prop := ∀ k m j, acc[k]? = some m → D k → m.testBit j = true → D j
theorem maskOf_in {D : Nat → Prop} {acc : List Nat} (ha : MaskIn D acc) : ∀ {es : List Edge}, (∀ e ∈ es, Region.binds .any e = true → D e.on) → ∀ j, (maskOf acc es).testBit j = true → D j
  | [], _, j, h => by simp [maskOf] at h
  | e :: es, he, j, h => by
    have ih := maskOf_in ha (es := es) fun x hx => he x (by simp [hx])
    simp only [maskOf] at h
    split at h
    · rename_i hb
      have hD := he e (by simp) hb
      rw [Nat.testBit_or, Nat.testBit_or] at h
      simp only [Bool.or_eq_true] at h
      rcases h with (h | h) | h
      · rw [Nat.testBit_two_pow] at h
        simp at h
        exact h ▸ hD
      · cases hm : acc[e.on]? with
        | none => simp [List.getD, hm] at h
        | some m => simp [List.getD, hm] at h; exact ha _ _ _ hm hD h
      · exact ih j h
    · exact ih j h

theorem hangs_spec {dsts : List (Option Tmp)} {ops : Array Oper} {D : Nat → Prop} : ∀ {l : List Oper} {i : Nat} {acc : List Nat}, hangs dsts ops i acc l = true → acc.length = i → MaskIn D acc →
    (∀ k o, l[k]? = some o → D (i + k) → ∀ e ∈ o.after, Region.binds .any e = true → D e.on) → ∀ k o, l[k]? = some o →
      (∀ e ∈ o.after, Region.binds .any e = true → e.on < i + k) ∧ ((∀ e ∈ o.after, Region.binds .any e = true → D e.on) → ∀ j d, dsts[j]? = some (some d) → d ∈ Oper.looksAt ops o → j < i + k ∧ D j)
  | [], _, _, _, _, _, _, k, o, hk => by simp at hk
  | o :: l, i, acc, h, hl, ha, hD, k, o', hk => by
    simp only [hangs, Bool.and_eq_true] at h
    obtain ⟨⟨h1, h2⟩, h3⟩ := h
    cases k with
    | zero =>
      simp at hk
      subst hk
      refine ⟨fun e he hb => ?_, fun hd j d hj hdl => ?_⟩
      · have := List.all_eq_true.1 h1 e (by simpa using he)
        simp only [Bool.or_eq_true, Bool.not_eq_true'] at this
        rcases this with this | this
        · rw [hb] at this; exact Bool.noConfusion this
        · have := Nat.le_of_ble_eq_true this
          exact this
      · obtain ⟨p, q⟩ := slotsOk_spec h2 j d hj hdl
        simp only [Nat.zero_add] at p q
        exact ⟨p, maskOf_in ha (fun e he hb => hd e (by simpa using he) hb) j q⟩
    | succ k =>
      have ha' : MaskIn D (acc ++ [maskOf acc o.after.toList]) := by
        intro k m j hk hDk hm
        rcases Nat.lt_or_ge k acc.length with hlt | hge
        · rw [List.getElem?_append_left hlt] at hk
          exact ha k m j hk hDk hm
        · rw [List.getElem?_append_right hge] at hk
          have e : k = i := by
            rcases Nat.eq_zero_or_pos (k - acc.length) with e | e
            · omega
            · rw [List.getElem?_eq_none (by simp; omega)] at hk; simp at hk
          subst e
          rw [hl] at hk
          simp at hk
          subst hk
          exact maskOf_in ha (fun e he hb => hD 0 o (by simp) (by simpa using hDk) e (by simpa using he) hb) j hm
      have := hangs_spec (l := l) (i := i + 1) h3 (by simp [hl]) ha' (fun k o hk hDk => hD (k + 1) o (by simpa using hk) (by rwa [show i + (k + 1) = i + 1 + k by omega])) k o' (by simpa using hk)
      rwa [show i + 1 + k = i + (k + 1) by omega] at this

theorem find_upd_ne : ∀ (H : List (Nat × Blk)) (n m : Nat) (cs : List SC), m ≠ n → find (upd H m cs) n = find H n
  | [], _, _, _, _ => rfl
  | (k, x) :: H, n, m, cs, h => by
    simp only [upd]
    cases hkm : Nat.beq k m with
    | true =>
      have e := beq_len hkm
      subst e
      simp only [if_true, find]
      cases hkn : Nat.beq k n with
      | true => exact absurd (beq_len hkn) h
      | false => rfl
    | false =>
      simp only [Bool.false_eq_true, if_false, find]
      rw [find_upd_ne H n m cs h]

section
variable {P : Program} {rec : Rec} {B : Nat} {w0 : World} {S : List Sum} {ops : Array Oper}

/-- What the text's order tells of each operation. -/
structure Facts (B : Nat) (w0 : World) (P : Program) (ops : Array Oper) (st : Nat → St) (acc : Nat → Option Nat) : Prop where
  one : ∀ i o, ops[i]? = some o → ∃ b, wantS ops (st i).T o = some b ∧ (b = false → st (i + 1) = { st i with T := putT (st i).T o.dst undefS } ∧ acc i = none) ∧
    (b = true → acc i = accOf (lookT (st i).T) (st i).nx o ∧ ∃ v, (st (i + 1)).T = putT (st i).T o.dst v ∧ Leaves (lookT (st i).T) o (st i) (st (i + 1)) ∧ Does P B w0 o (st i) (st (i + 1)) v)

/-- The j-th operation stores into block n. -/
def StoreAt (ops : Array Oper) (acc : Nat → Option Nat) (j n : Nat) : Prop := ∃ o, ops[j]? = some o ∧ isSt o = true ∧ acc j = some n
def NoSt (ops : Array Oper) (acc : Nat → Option Nat) (n i k : Nat) : Prop := ∀ j, i ≤ j → j < k → ¬ StoreAt ops acc j n

variable {st : Nat → St} {acc : Nat → Option Nat} (F : Facts B w0 P ops st acc)
include F
theorem Facts.cases {i : Nat} {o : Oper} (ho : ops[i]? = some o) : (∃ v, (st (i + 1)).T = putT (st i).T o.dst v) ∧
    (((st (i + 1)).H = (st i).H ∧ (st (i + 1)).nx = (st i).nx) ∨ (isSt o = false ∧ acc i = some (st i).nx ∧ ∃ b, (st (i + 1)).H = ((st i).nx, b) :: (st i).H ∧ (st (i + 1)).nx = (st i).nx + 1) ∨ (isSt o = true ∧ (st (i + 1)).nx = (st i).nx ∧ ∃ n cs, acc i = some n ∧ (st (i + 1)).H = upd (st i).H n cs)) := by
  obtain ⟨b, _, h1, h2⟩ := F.one i o ho
  cases b with
  | false => rw [(h1 rfl).1]; exact ⟨⟨_, rfl⟩, .inl ⟨rfl, rfl⟩⟩
  | true =>
    obtain ⟨ha, v, h3, h4, _⟩ := h2 rfl
    refine ⟨⟨v, h3⟩, ?_⟩
    rcases h4 with ⟨_, h⟩ | ⟨q1, q2, q3⟩ | ⟨q1, q2, n, cs, q3, _, q4⟩
    · exact .inl h
    · exact .inr (.inl ⟨q1, by rw [ha]; exact q2, q3⟩)
    · exact .inr (.inr ⟨q1, q2, n, cs, by rw [ha]; exact q3, q4⟩)
theorem Facts.nx_le : ∀ {i k : Nat}, i + k ≤ ops.size → (st i).nx ≤ (st (i + k)).nx
  | i, 0, _ => Nat.le_refl _
  | i, k + 1, h => by
    have ih := Facts.nx_le (i := i) (k := k) (by omega)
    obtain ⟨_, h1 | ⟨_, _, b, _, h1⟩ | ⟨_, h1, _⟩⟩ := F.cases (i := i + k) (o := ops[i + k]'(by omega)) (Array.getElem?_eq_getElem (by omega))
    · rw [show i + (k + 1) = i + k + 1 by omega, h1.2]; exact ih
    · rw [show i + (k + 1) = i + k + 1 by omega, h1]; omega
    · rw [show i + (k + 1) = i + k + 1 by omega, h1]; exact ih
theorem Facts.nx_mono {i k : Nat} (h : i ≤ k) (hk : k ≤ ops.size) : (st i).nx ≤ (st k).nx := by
  have := F.nx_le (i := i) (k := k - i) (by omega)
  rwa [show i + (k - i) = k by omega] at this
theorem Facts.len : ∀ {i : Nat}, i ≤ ops.size → (st i).T.length = (st 0).T.length
  | 0, _ => rfl
  | i + 1, h => by
    obtain ⟨⟨v, hv⟩, _⟩ := F.cases (i := i) (o := ops[i]'(by omega)) (Array.getElem?_eq_getElem (by omega))
    rw [hv, ← Facts.len (i := i) (by omega)]
    cases (ops[i]'(by omega)).dst <;> simp [putT]
/-- A slot that no operation from i on, before the (i + k)-th, writes. -/
theorem Facts.keep : ∀ {i k t : Nat}, i + k ≤ ops.size → (∀ j o, i ≤ j → j < i + k → ops[j]? = some o → o.dst ≠ some t) → (st (i + k)).T[t]? = (st i).T[t]?
  | i, 0, t, _, _ => rfl
  | i, k + 1, t, h, hk => by
    have ih := Facts.keep (i := i) (k := k) (t := t) (by omega) fun j o h1 h2 => hk j o h1 (by omega)
    have ho : ops[i + k]? = some (ops[i + k]'(by omega)) := Array.getElem?_eq_getElem (by omega)
    obtain ⟨⟨v, hv⟩, _⟩ := F.cases ho
    have hd := hk (i + k) _ (by omega) (by omega) ho
    rw [show i + (k + 1) = i + k + 1 by omega, hv, ← ih]
    cases hdst : (ops[i + k]'(by omega)).dst with
    | none => rfl
    | some d =>
      rw [hdst] at hd
      simp only [putT]
      rw [List.getElem?_set_ne (fun e => hd (by rw [e]))]
theorem Facts.names (h0 : ∀ n b, find (st 0).H n = some b → n < (st 0).nx) : ∀ {i : Nat}, i ≤ ops.size → ∀ n b, find (st i).H n = some b → n < (st i).nx
  | 0, _ => h0
  | i + 1, h => fun n b hn => by
    have ih := Facts.names h0 (i := i) (by omega)
    obtain ⟨_, h1 | ⟨_, _, b', h1, h2⟩ | ⟨_, h2, m, cs, _, h1⟩⟩ := F.cases (i := i) (o := ops[i]'(by omega)) (Array.getElem?_eq_getElem (by omega))
    · rw [h1.2]; rw [h1.1] at hn; exact ih n b hn
    · rw [h2]
      rw [h1] at hn
      simp only [find] at hn
      split at hn
      · rename_i e; have := beq_len e; omega
      · have := ih n b hn; omega
    · rw [h2]
      rw [h1] at hn
      rcases find_upd _ _ n _ b hn with ⟨rfl, b0, hb0, _⟩ | ⟨_, hb⟩
      · exact ih _ b0 hb0
      · exact ih n b hb
theorem Facts.heap_le (h0 : ∀ n b, find (st 0).H n = some b → n < (st 0).nx) {n : Nat} : ∀ {i k : Nat}, i + k ≤ ops.size → NoSt ops acc n i (i + k) → ∀ b, find (st i).H n = some b → find (st (i + k)).H n = some b
  | i, 0, _, _, b, hn => hn
  | i, k + 1, h, hno, b, hn => by
    have ih := Facts.heap_le h0 (n := n) (i := i) (k := k) (by omega) (fun j h1 h2 => hno j h1 (by omega)) b hn
    have ho : ops[i + k]? = some (ops[i + k]'(by omega)) := Array.getElem?_eq_getElem (by omega)
    obtain ⟨_, h1 | ⟨_, _, b', h1, h2⟩ | ⟨h2, _, m, cs, ha, h1⟩⟩ := F.cases (i := i + k) (o := ops[i + k]'(by omega)) ho
    · rw [show i + (k + 1) = i + k + 1 by omega, h1.1]; exact ih
    · rw [show i + (k + 1) = i + k + 1 by omega, h1]
      have := F.names h0 (i := i + k) (by omega) n b ih
      simp only [find]
      rw [if_neg (fun e => by have := beq_len e; omega)]
      exact ih
    · rw [show i + (k + 1) = i + k + 1 by omega, h1, find_upd_ne _ _ _ _ (fun e => hno (i + k) (by omega) (by omega) ⟨_, ho, h2, by rw [ha, e]⟩)]
      exact ih
theorem Facts.heap (h0 : ∀ n b, find (st 0).H n = some b → n < (st 0).nx) {n i k : Nat} (h : i ≤ k) (hk : k ≤ ops.size) (hno : NoSt ops acc n i k) {b : Blk} (hb : find (st i).H n = some b) : find (st k).H n = some b := by
  have := F.heap_le h0 (n := n) (i := i) (k := k - i) (by omega) (by rwa [show i + (k - i) = k by omega]) b hb
  rwa [show i + (k - i) = k by omega] at this
theorem Facts.back_le {n : Nat} : ∀ {i k : Nat}, i + k ≤ ops.size → NoSt ops acc n i (i + k) → n < (st i).nx → ∀ b, find (st (i + k)).H n = some b → find (st i).H n = some b
  | i, 0, _, _, _, b, hn => hn
  | i, k + 1, h, hno, hlt, b, hn => by
    have ih := Facts.back_le (n := n) (i := i) (k := k) (by omega) (fun j h1 h2 => hno j h1 (by omega)) hlt b
    have hle := F.nx_le (i := i) (k := k) (by omega)
    have ho : ops[i + k]? = some (ops[i + k]'(by omega)) := Array.getElem?_eq_getElem (by omega)
    obtain ⟨_, h1 | ⟨_, _, b', h1, h2⟩ | ⟨h2, _, m, cs, ha, h1⟩⟩ := F.cases (i := i + k) (o := ops[i + k]'(by omega)) ho
    · rw [show i + (k + 1) = i + k + 1 by omega, h1.1] at hn; exact ih hn
    · rw [show i + (k + 1) = i + k + 1 by omega, h1] at hn
      simp only [find] at hn
      rw [if_neg (fun e => by have := beq_len e; omega)] at hn
      exact ih hn
    · rw [show i + (k + 1) = i + k + 1 by omega, h1, find_upd_ne _ _ _ _ (fun e => hno (i + k) (by omega) (by omega) ⟨_, ho, h2, by rw [ha, e]⟩)] at hn
      exact ih hn
theorem Facts.back {n i k : Nat} (h : i ≤ k) (hk : k ≤ ops.size) (hno : NoSt ops acc n i k) (hlt : n < (st i).nx) {b : Blk} (hb : find (st k).H n = some b) : find (st i).H n = some b :=
  F.back_le (n := n) (i := i) (k := k - i) (by omega) (by rwa [show i + (k - i) = k by omega]) hlt b (by rwa [show i + (k - i) = k by omega])
end

/-! The check on accesses, read. -/
theorem sameB_self (n : Nat) : sameB (some n) (some n) = true := Nat.beq_refl n
theorem accRow_spec {ms : List Nat} {i n : Nat} : ∀ {l : List (Option Nat)} {k : Nat}, accRow ms i (some n) k l = true → ∀ j : Nat, l[j]? = some (some n) → (k + j < i → (ms.getD i 0).testBit (k + j) = true) ∧ (i < k + j → (ms.getD (k + j) 0).testBit i = true)
  | [], _, _, j, h => by simp at h
  | y :: l, k, h, j, hj => by
    simp only [accRow, Bool.and_eq_true] at h
    cases j with
    | zero =>
      simp at hj
      subst hj
      have h1 := h.1
      simp only [sameB_self, Bool.not_true, Bool.false_or, Bool.and_eq_true, Bool.or_eq_true, Bool.not_eq_true'] at h1
      refine ⟨fun hlt => ?_, fun hlt => ?_⟩
      · rcases h1.1 with e | e
        · exact absurd (Nat.ble_eq_true_of_le (show k + 1 ≤ i by omega)) (by have e' : Nat.ble (k + 1) i = false := e; rw [e']; simp)
        · exact e
      · rcases h1.2 with e | e
        · exact absurd (Nat.ble_eq_true_of_le (show i + 1 ≤ k by omega)) (by have e' : Nat.ble (i + 1) k = false := e; rw [e']; simp)
        · exact e
    | succ j =>
      have := accRow_spec (l := l) (k := k + 1) h.2 j (by simpa using hj)
      rwa [show k + 1 + j = k + (j + 1) by omega] at this
theorem accAll_spec {ms : List Nat} {all : List (Option Nat)} : ∀ {l : List Oper} {ns : List (Option Nat)} {k : Nat}, accAll ms all k l ns = true → ∀ (i : Nat) (o : Oper) (n : Nat), l[i]? = some o → ns[i]? = some (some n) → isSt o = true → accRow ms (k + i) (some n) 0 all = true
  | [], _, _, _, i, o, n, h, _, _ => by simp at h
  | _ :: _, [], _, _, i, o, n, _, h, _ => by simp at h
  | y :: l, m :: ns, k, h, i, o, n, hi, hn, hs => by
    simp only [accAll, Bool.and_eq_true] at h
    cases i with
    | zero => simp at hi hn; subst hi hn; simpa [hs] using h.1
    | succ i =>
      have := accAll_spec (l := l) (ns := ns) (k := k + 1) h.2 i o n (by simpa using hi) (by simpa using hn) hs
      rwa [show k + 1 + i = k + (i + 1) by omega] at this
theorem masks_in {D : Nat → Prop} : ∀ {l : List Oper} {acc : List Nat}, MaskIn D acc → (∀ k o, l[k]? = some o → D (acc.length + k) → ∀ e ∈ o.after, Region.binds .any e = true → D e.on) → MaskIn D (masks acc l)
  | [], _, ha, _ => ha
  | o :: l, acc, ha, hD => by
    simp only [masks]
    refine masks_in (l := l) ?_ fun k o' hk hd => ?_
    · intro k m j hk hDk hm
      rcases Nat.lt_or_ge k acc.length with hlt | hge
      · rw [List.getElem?_append_left hlt] at hk
        exact ha k m j hk hDk hm
      · rw [List.getElem?_append_right hge] at hk
        have e : k = acc.length := by
          rcases Nat.eq_zero_or_pos (k - acc.length) with e | e
          · omega
          · rw [List.getElem?_eq_none (by simp; omega)] at hk; simp at hk
        subst e
        simp at hk
        subst hk
        exact maskOf_in ha (fun e he hb => hD 0 o (by simp) (by simpa using hDk) e (by simpa using he) hb) j hm
    · exact hD (k + 1) o' (by simpa using hk) (by simp at hd; rwa [show acc.length + (k + 1) = acc.length + 1 + k by omega])
end Go.Proofs.YtiooegkbkahppaaDoor
