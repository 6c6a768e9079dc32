/- The symbolic evaluator: what its states mean, and the small operations are sound. No condition. -/
import Derived.Test.YtjgmipklbpghfaaDoorEv1
import Derived.ChangeKeysEq
import Derived.Laws.Tables

/- The symbolic evaluator: what its values and its memory stand for, and small lemmas. No condition. -/
namespace Go.Proofs.YtjgmipklbpghfaaDoor
open Go.RowKit

def inKind : SK → Value → Prop
  | .i k, v => ∃ n, v = .int k n ∧ k.min ≤ n ∧ n ≤ k.max
  | .b, v => ∃ t, v = .bool t
  | .s, v => ∃ t, v = .string t
  | .o, v => v.oneCell' = true

theorem inKind.norm {κ : SK} {v : Value} (h : inKind κ v) : norm κ v = v := by
  cases κ with
  | i k => obtain ⟨n, rfl, _⟩ := h; rfl
  | b => obtain ⟨t, rfl⟩ := h; rfl
  | s => obtain ⟨t, rfl⟩ := h; rfl
  | o => rfl
theorem inKind.one {κ : SK} {v : Value} (h : inKind κ v) : v.oneCell' = true := by
  cases κ with
  | i k => obtain ⟨n, rfl, _⟩ := h; rfl
  | b => obtain ⟨n, rfl⟩ := h; rfl
  | s => obtain ⟨n, rfl⟩ := h; rfl
  | o => exact h

abbrev Rho := Nat → Option Nat
def Ext (ρ ρ' : Rho) : Prop := ∀ n x, ρ n = some x → ρ' n = some x
theorem Ext.refl (ρ : Rho) : Ext ρ ρ := fun _ _ h => h
theorem Ext.trans {a b c : Rho} (h : Ext a b) (k : Ext b c) : Ext a c := fun n x e => k n x (h n x e)

def CapsRel (ρ : Rho) : List (Nat × Nat) → List Value → Prop
  | [], [] => True
  | c :: cs, v :: vs => (∃ n, ρ c.1 = some n ∧ v = .pointer (some ⟨n, c.2, none⟩)) ∧ CapsRel ρ cs vs
  | _, _ => False

def CRel (ρ : Rho) : SC → Value → Prop
  | .e x, v => v = x.den ∧ ∃ κ, x.kind = some κ ∧ inKind κ v
  | .p b off, v => ∃ n, ρ b = some n ∧ v = .pointer (some ⟨n, off, none⟩)
  | .fn f caps, v => ∃ vs : List Value, CapsRel ρ caps vs ∧ v = .func (.func f) #[] vs.toArray
  | .sl b off len cap, v => ∃ n, ρ b = some n ∧ v = .slice (some ⟨n, off, none⟩) len cap

def CsRel (ρ : Rho) : List SC → List Value → Prop
  | [], [] => True
  | c :: cs, v :: vs => CRel ρ c v ∧ CsRel ρ cs vs
  | _, _ => False

def PRel (ρ : Rho) : SP → Value → Prop
  | .c x, v => CRel ρ x v
  | .agg cs, v => ∃ vs : List Value, v = .agg vs.toArray ∧ CsRel ρ cs vs

def PsRel (ρ : Rho) : List SP → List Value → Prop
  | [], [] => True
  | c :: cs, v :: vs => PRel ρ c v ∧ PsRel ρ cs vs
  | _, _ => False

def VRel (ρ : Rho) : SV → Value → Prop
  | .p x, v => PRel ρ x v
  | .tup xs, v => ∃ vs : List Value, v = .tuple vs.toArray ∧ PsRel ρ xs vs

def VsRel (ρ : Rho) : List SV → List Value → Prop
  | [], [] => True
  | c :: cs, v :: vs => VRel ρ c v ∧ VsRel ρ cs vs
  | _, _ => False

section
variable {ρ ρ' : Rho}
theorem CapsRel.mono (hx : Ext ρ ρ') : ∀ {cs : List (Nat × Nat)} {vs : List Value}, CapsRel ρ cs vs → CapsRel ρ' cs vs
  | [], [], _ => trivial
  | _ :: _, _ :: _, ⟨⟨n, a, b⟩, k⟩ => ⟨⟨n, hx _ _ a, b⟩, CapsRel.mono hx k⟩
  | [], _ :: _, h => h.elim
  | _ :: _, [], h => h.elim
theorem CRel.mono (hx : Ext ρ ρ') {c : SC} {v : Value} (h : CRel ρ c v) : CRel ρ' c v := by
  cases c with
  | e x => exact h
  | p b off => obtain ⟨n, a, k⟩ := h; exact ⟨n, hx _ _ a, k⟩
  | fn f caps => obtain ⟨vs, a, k⟩ := h; exact ⟨vs, a.mono hx, k⟩
  | sl b off len cap => obtain ⟨n, a, k⟩ := h; exact ⟨n, hx _ _ a, k⟩
theorem CsRel.mono (hx : Ext ρ ρ') : ∀ {cs : List SC} {vs : List Value}, CsRel ρ cs vs → CsRel ρ' cs vs
  | [], [], _ => trivial
  | _ :: _, _ :: _, ⟨a, k⟩ => ⟨a.mono hx, CsRel.mono hx k⟩
  | [], _ :: _, h => h.elim
  | _ :: _, [], h => h.elim
theorem PRel.mono (hx : Ext ρ ρ') {c : SP} {v : Value} (h : PRel ρ c v) : PRel ρ' c v := by
  cases c with
  | c x => exact CRel.mono hx h
  | agg cs => obtain ⟨vs, a, k⟩ := h; exact ⟨vs, a, k.mono hx⟩
theorem PsRel.mono (hx : Ext ρ ρ') : ∀ {cs : List SP} {vs : List Value}, PsRel ρ cs vs → PsRel ρ' cs vs
  | [], [], _ => trivial
  | _ :: _, _ :: _, ⟨a, k⟩ => ⟨a.mono hx, PsRel.mono hx k⟩
  | [], _ :: _, h => h.elim
  | _ :: _, [], h => h.elim
theorem VRel.mono (hx : Ext ρ ρ') {c : SV} {v : Value} (h : VRel ρ c v) : VRel ρ' c v := by
  cases c with
  | p x => exact PRel.mono hx h
  | tup cs => obtain ⟨vs, a, k⟩ := h; exact ⟨vs, a, k.mono hx⟩
theorem VsRel.mono (hx : Ext ρ ρ') : ∀ {cs : List SV} {vs : List Value}, VsRel ρ cs vs → VsRel ρ' cs vs
  | [], [], _ => trivial
  | _ :: _, _ :: _, ⟨a, k⟩ => ⟨a.mono hx, VsRel.mono hx k⟩
  | [], _ :: _, h => h.elim
  | _ :: _, [], h => h.elim

theorem CRel.one {c : SC} {v : Value} (h : CRel ρ c v) : v.oneCell' = true := by
  cases c with
  | e x => obtain ⟨_, κ, _, k⟩ := h; exact k.one
  | p b off => obtain ⟨n, _, rfl⟩ := h; rfl
  | fn f caps => obtain ⟨vs, _, rfl⟩ := h; rfl
  | sl b off len cap => obtain ⟨n, _, rfl⟩ := h; rfl
theorem cells_one {v : Value} (h : v.oneCell' = true) : v.cells = #[v] := by cases v <;> first | rfl | (simp [Value.oneCell'] at h)
theorem PRel.cells {x : SP} {v : Value} (h : PRel ρ x v) : CsRel ρ x.cells v.cells.toList := by
  cases x with
  | c x => rw [cells_one (CRel.one h)]; exact ⟨h, trivial⟩
  | agg cs => obtain ⟨vs, rfl, k⟩ := h; simpa [Value.cells, SP.cells] using k

theorem CsRel.length : ∀ {cs : List SC} {vs : List Value}, CsRel ρ cs vs → cs.length = vs.length
  | [], [], _ => rfl
  | _ :: _, _ :: _, ⟨_, k⟩ => by simp [CsRel.length k]
  | [], _ :: _, h => h.elim
  | _ :: _, [], h => h.elim
theorem CsRel.get : ∀ {cs : List SC} {vs : List Value} {i : Nat} {c : SC}, CsRel ρ cs vs → cs[i]? = some c → ∃ v, vs[i]? = some v ∧ CRel ρ c v
  | [], [], _, _, _, h => by simp at h
  | c :: _, v :: _, 0, _, ⟨a, _⟩, h => ⟨v, by simp, by simp at h; exact h ▸ a⟩
  | _ :: _, _ :: _, i + 1, _, ⟨_, k⟩, h => by simpa using CsRel.get (i := i) k (by simpa using h)
  | [], _ :: _, _, _, h, _ => h.elim
  | _ :: _, [], _, _, h, _ => h.elim
theorem CsRel.drop : ∀ {cs : List SC} {vs : List Value} (n : Nat), CsRel ρ cs vs → CsRel ρ (cs.drop n) (vs.drop n)
  | [], [], _, _ => by simp [CsRel]
  | _ :: _, _ :: _, 0, h => h
  | _ :: _, _ :: _, n + 1, ⟨_, k⟩ => by simpa using CsRel.drop n k
  | [], _ :: _, _, h => h.elim
  | _ :: _, [], _, h => h.elim
theorem CsRel.take : ∀ {cs : List SC} {vs : List Value} (n : Nat), CsRel ρ cs vs → CsRel ρ (cs.take n) (vs.take n)
  | [], [], _, _ => by simp [CsRel]
  | _ :: _, _ :: _, 0, _ => by simp [CsRel]
  | _ :: _, _ :: _, n + 1, ⟨a, k⟩ => by simpa using ⟨a, CsRel.take n k⟩
  | [], _ :: _, _, h => h.elim
  | _ :: _, [], _, h => h.elim
theorem CsRel.set : ∀ {cs : List SC} {vs : List Value} {c : SC} {v : Value} (n : Nat), CsRel ρ cs vs → CRel ρ c v → CsRel ρ (cs.set n c) (vs.set n v)
  | [], [], _, _, _, _, _ => by simp [CsRel]
  | _ :: _, _ :: _, _, _, 0, ⟨_, k⟩, hc => by simpa using ⟨hc, k⟩
  | _ :: _, _ :: _, _, _, n + 1, ⟨a, k⟩, hc => by simpa using ⟨a, CsRel.set n k hc⟩
  | [], _ :: _, _, _, _, h, _ => h.elim
  | _ :: _, [], _, _, _, h, _ => h.elim
theorem CsRel.append : ∀ {cs : List SC} {vs : List Value} {ds : List SC} {us : List Value}, CsRel ρ cs vs → CsRel ρ ds us → CsRel ρ (cs ++ ds) (vs ++ us)
  | [], [], _, _, _, h => by simpa using h
  | _ :: _, _ :: _, _, _, ⟨a, k⟩, h => by simpa using ⟨a, CsRel.append k h⟩
  | [], _ :: _, _, _, h, _ => h.elim
  | _ :: _, [], _, _, h, _ => h.elim

theorem PsRel.get : ∀ {cs : List SP} {vs : List Value} {i : Nat} {c : SP}, PsRel ρ cs vs → cs[i]? = some c → ∃ v, vs[i]? = some v ∧ PRel ρ c v
  | [], [], _, _, _, h => by simp at h
  | c :: _, v :: _, 0, _, ⟨a, _⟩, h => ⟨v, by simp, by simp at h; exact h ▸ a⟩
  | _ :: _, _ :: _, i + 1, _, ⟨_, k⟩, h => by simpa using PsRel.get (i := i) k (by simpa using h)
  | [], _ :: _, _, _, h, _ => h.elim
  | _ :: _, [], _, _, h, _ => h.elim
theorem VsRel.get : ∀ {cs : List SV} {vs : List Value} {i : Nat} {c : SV}, VsRel ρ cs vs → cs[i]? = some c → ∃ v, vs[i]? = some v ∧ VRel ρ c v
  | [], [], _, _, _, h => by simp at h
  | c :: _, v :: _, 0, _, ⟨a, _⟩, h => ⟨v, by simp, by simp at h; exact h ▸ a⟩
  | _ :: _, _ :: _, i + 1, _, ⟨_, k⟩, h => by simpa using VsRel.get (i := i) k (by simpa using h)
  | [], _ :: _, _, _, h, _ => h.elim
  | _ :: _, [], _, _, h, _ => h.elim
theorem VsRel.length : ∀ {cs : List SV} {vs : List Value}, VsRel ρ cs vs → cs.length = vs.length
  | [], [], _ => rfl
  | _ :: _, _ :: _, ⟨_, k⟩ => by simp [VsRel.length k]
  | [], _ :: _, h => h.elim
  | _ :: _, [], h => h.elim
theorem VsRel.append : ∀ {cs : List SV} {vs : List Value} {ds : List SV} {us : List Value}, VsRel ρ cs vs → VsRel ρ ds us → VsRel ρ (cs ++ ds) (vs ++ us)
  | [], [], _, _, _, h => by simpa using h
  | _ :: _, _ :: _, _, _, ⟨a, k⟩, h => by simpa using ⟨a, VsRel.append k h⟩
  | [], _ :: _, _, _, h, _ => h.elim
  | _ :: _, [], _, _, h, _ => h.elim
theorem VsRel.set : ∀ {cs : List SV} {vs : List Value} {c : SV} {v : Value} (n : Nat), VsRel ρ cs vs → VRel ρ c v → VsRel ρ (cs.set n c) (vs.set n v)
  | [], [], _, _, _, _, _ => by simp [VsRel]
  | _ :: _, _ :: _, _, _, 0, ⟨_, k⟩, hc => by simpa using ⟨hc, k⟩
  | _ :: _, _ :: _, _, _, n + 1, ⟨a, k⟩, hc => by simpa using ⟨a, VsRel.set n k hc⟩
  | [], _ :: _, _, _, _, h, _ => h.elim
  | _ :: _, [], _, _, _, h, _ => h.elim
theorem undef_rel : VRel ρ undefS undef := ⟨[], rfl, trivial⟩
theorem VsRel.undefs : ∀ n, VsRel ρ (List.replicate n undefS) (List.replicate n undef)
  | 0 => trivial
  | n + 1 => ⟨undef_rel, VsRel.undefs n⟩
end

/-! Cells of constants. -/
theorem ofCell_rel {ρ : Rho} {v : Value} {c : SC} (h : ofCell v = some c) : CRel ρ c v := by
  unfold ofCell at h
  split at h
  · rename_i k n
    split at h
    · rename_i hc
      simp at hc h
      subst h
      exact ⟨rfl, .i k, rfl, n, rfl, hc.1, hc.2⟩
    · simp at h
  · simp at h
  · simp at h
  · rename_i hi ha ht
    simp at h
    subst h
    cases v <;> first
      | exact ⟨rfl, .b, rfl, _, rfl⟩
      | exact ⟨rfl, .s, rfl, _, rfl⟩
      | exact ⟨rfl, .o, rfl, rfl⟩
      | exact absurd rfl (hi _ _)
      | exact absurd rfl (ha _)
      | exact absurd rfl (ht _)
theorem ofCells_rel {ρ : Rho} : ∀ {vs : List Value} {cs : List SC}, ofCells vs = some cs → CsRel ρ cs vs
  | [], cs, h => by simp [ofCells] at h; subst h; trivial
  | v :: vs, cs, h => by
    simp only [ofCells] at h
    split at h
    · rename_i c ds hc hd
      simp at h
      subst h
      exact ⟨ofCell_rel hc, ofCells_rel hd⟩
    · simp at h
theorem ofConst_rel {ρ : Rho} {v : Value} {s : SV} (h : ofConst v = some s) : VRel ρ s v := by
  unfold ofConst at h
  split at h
  · rename_i cs
    cases hc : ofCells cs.toList with
    | none => simp [hc] at h
    | some ds => simp [hc] at h; subst h; exact ⟨cs.toList, by simp, ofCells_rel hc⟩
  · cases hc : ofCell v with
    | none => simp [hc] at h
    | some ds => simp [hc] at h; subst h; exact ofCell_rel hc

/-! Trees. -/
theorem den_bind {α β : Type} (t : Tree α) (k : α → Tree β) : (t.bind k).den = t.den.bind fun a => (k a).den := by
  induction t with
  | ret a => simp [Tree.bind, Tree.den]
  | ite c t f iht ihf => simp only [Tree.bind, Tree.den, iht, ihf]; cases tru c.den <;> rfl
  | fail => simp [Tree.bind, Tree.den]
theorem den_bind_some {α β : Type} {t : Tree α} {k : α → Tree β} {b : β} (h : (t.bind k).den = some b) : ∃ a, t.den = some a ∧ (k a).den = some b := by
  rw [den_bind] at h
  cases ht : t.den with
  | none => simp [ht] at h
  | some a => exact ⟨a, rfl, by simpa [ht] using h⟩

/-! Numbers. -/
theorem eqIK {k k' : IntKind} (h : binEqIK k k' = true) : k' = k := by cases k <;> cases k' <;> first | rfl | simp [binEqIK] at h
theorem eqSK_eq {k k' : SK} (h : eqSK k k' = true) : k' = k := by
  cases k <;> cases k' <;> first | rfl | (simp [eqSK] at h; done) | (simp only [eqSK] at h; rw [eqIK h])
theorem tmod_within (k : IntKind) (x y : Int) (h0 : k.min ≤ x) (h1 : x ≤ k.max) : k.min ≤ x.tmod y ∧ x.tmod y ≤ k.max := by
  have hm : k.min ≤ 0 := by cases k <;> decide
  have hM : 0 ≤ k.max := by cases k <;> decide
  have e := Int.natAbs_tmod x y
  have l := Nat.mod_le x.natAbs y.natAbs
  rcases Int.le_total 0 x with h | h
  · have a := Int.tmod_nonneg y h
    omega
  · have e2 : x.tmod y = -((-x).tmod y) := by rw [Int.neg_tmod]; omega
    have a := Int.tmod_nonneg y (a := -x) (by omega)
    omega
theorem fdiv_within (k : IntKind) (x : Int) (n : Nat) (h0 : k.min ≤ x) (h1 : x ≤ k.max) : k.min ≤ x.fdiv (2 ^ n) ∧ x.fdiv (2 ^ n) ≤ k.max := by
  have hm : k.min ≤ 0 := by cases k <;> decide
  have hM : 0 ≤ k.max := by cases k <;> decide
  have hp : (0 : Int) < 2 ^ n := Int.pow_pos (by decide)
  rw [Int.fdiv_eq_ediv_of_nonneg _ (by omega)]
  generalize hq : (2 : Int) ^ n = q at hp
  have e := Int.mul_ediv_add_emod x q
  have r0 := Int.emod_nonneg x (show q ≠ 0 by omega)
  have r1 := Int.emod_lt_of_pos x hp
  rcases Int.le_total 0 x with h | h
  · have a : 0 ≤ x / q := Int.ediv_nonneg h (by omega)
    have b : x / q ≤ x := Int.ediv_le_self _ h
    omega
  · have a : x / q ≤ 0 := Int.ediv_nonpos_of_nonpos_of_neg h hp
    have b : x ≤ x / q := by
      have : q * (x / q) ≤ x / q := by
        have : 0 ≤ (q - 1) * (-(x / q)) := Int.mul_nonneg (by omega) (by omega)
        have h2 : (q - 1) * (-(x / q)) = -(q * (x / q)) + x / q := by rw [Int.sub_mul, Int.mul_neg, Int.one_mul]; omega
        omega
      have := Int.le_ediv_of_mul_le hp (show x * q ≤ x by
        have : 0 ≤ (q - 1) * (-x) := Int.mul_nonneg (by omega) (by omega)
        have h2 : (q - 1) * (-x) = -(x * q) + x := by rw [Int.sub_mul, Int.mul_neg, Int.one_mul, Int.mul_comm q x]; omega
        omega)
      exact this
    omega
theorem binI_within (op : BinOp) (k : IntKind) (x y : Int) (h0 : k.min ≤ x) (h1 : x ≤ k.max) : k.min ≤ binI op k x y ∧ binI op k x y ≤ k.max := by
  have hm : k.min ≤ 0 := by cases k <;> decide
  have hM : 0 ≤ k.max := by cases k <;> decide
  cases op <;> simp only [binI] <;> first
    | exact wrap_within k _
    | exact bits_within _ k _ _
    | exact tmod_within k x y h0 h1
    | exact fdiv_within k x _ h0 h1
    | exact ⟨hm, hM⟩
theorem wrap_in (k : IntKind) (x : Int) (h0 : k.min ≤ x) (h1 : x ≤ k.max) : k.wrap x = x := by
  cases k <;> simp [IntKind.min, IntKind.max, IntKind.bits, IntKind.signed] at h0 h1 <;> simp [IntKind.wrap, IntKind.bits, IntKind.signed] <;> (try split) <;> omega
theorem widens_spec {j k : IntKind} (h : widens j k = true) : k.min ≤ j.min ∧ j.max ≤ k.max := by
  simpa [widens] using h

/-- What it is to be an expression's cell. -/
theorem erel_int {ρ : Rho} {a : SE} {v : Value} {k : IntKind} (h : CRel ρ (.e a) v) (hk : a.kind = some (.i k)) : ∃ n, v = .int k n ∧ a.den = .int k n ∧ k.min ≤ n ∧ n ≤ k.max := by
  obtain ⟨hd, κ, hκ, hi⟩ := h
  rw [hk] at hκ
  cases hκ
  obtain ⟨n, rfl, a, b⟩ := hi
  exact ⟨n, rfl, hd.symm, a, b⟩
theorem erel_bool {ρ : Rho} {a : SE} {v : Value} (h : CRel ρ (.e a) v) (hk : a.kind = some .b) : ∃ t, v = .bool t ∧ a.den = .bool t := by
  obtain ⟨hd, κ, hκ, hi⟩ := h
  rw [hk] at hκ
  cases hκ
  obtain ⟨n, rfl⟩ := hi
  exact ⟨n, rfl, hd.symm⟩
theorem erel_str {ρ : Rho} {a : SE} {v : Value} (h : CRel ρ (.e a) v) (hk : a.kind = some .s) : ∃ t, v = .string t ∧ a.den = .string t := by
  obtain ⟨hd, κ, hκ, hi⟩ := h
  rw [hk] at hκ
  cases hκ
  obtain ⟨n, rfl⟩ := hi
  exact ⟨n, rfl, hd.symm⟩
theorem eqBs_eq : ∀ (a b : List UInt8), eqBs a b = (a == b)
  | [], [] => rfl
  | [], _ :: _ => rfl
  | _ :: _, [] => rfl
  | a :: x, b :: y => by
    have e : Nat.beq a.toNat b.toNat = (a == b) := by
      rw [Bool.eq_iff_iff]
      simp [UInt8.toNat_inj]
    simp only [eqBs, e, eqBs_eq x y]
    rfl
theorem eqStr_eq (a b : ByteArray) : eqStr a b = (a.toList == b.toList) := by
  rw [ByteArray.toList_eq, ByteArray.toList_eq]
  exact eqBs_eq _ _
theorem erel_of_bool {ρ : Rho} {a : SE} {t : Bool} (hk : a.kind = some .b) (hd : a.den = .bool t) : CRel ρ (.e a) (.bool t) := ⟨hd.symm, .b, hk, t, rfl⟩
theorem erel_of_int {ρ : Rho} {a : SE} {k : IntKind} {n : Int} (hk : a.kind = some (.i k)) (hd : a.den = .int k n) (h0 : k.min ≤ n) (h1 : n ≤ k.max) : CRel ρ (.e a) (.int k n) := ⟨hd.symm, .i k, hk, n, rfl, h0, h1⟩

section
variable {ρ : Rho}
theorem mkBin_rel (op : BinOp) {k k' : IntKind} {a b : SE} {x y : Int} (da : a.den = .int k x) (db : b.den = .int k' y) (h0 : k.min ≤ x) (h1 : x ≤ k.max) : CRel ρ (.e (mkBin op k a b)) (.int k (binI op k x y)) := by
  have w := binI_within op k x y h0 h1
  unfold mkBin
  split
  · simp [SE.den] at da db
    obtain ⟨_, rfl⟩ := da
    obtain ⟨_, rfl⟩ := db
    exact ⟨rfl, .i k, rfl, _, rfl, w⟩
  · exact ⟨by simp [SE.den, da, db, num], .i k, rfl, _, rfl, w⟩
theorem mkCmp_rel (op : BinOp) {k k' : IntKind} {a b : SE} {x y : Int} (da : a.den = .int k x) (db : b.den = .int k' y) : CRel ρ (.e (mkCmp op a b)) (.bool (cmpB op x y)) := by
  unfold mkCmp
  split
  · simp [SE.den] at da db
    obtain ⟨_, rfl⟩ := da
    obtain ⟨_, rfl⟩ := db
    exact ⟨rfl, .b, rfl, _, rfl⟩
  · exact ⟨by simp [SE.den, da, db, num], .b, rfl, _, rfl⟩
theorem mkBeq_rel {a b : SE} {x y : Bool} (da : a.den = .bool x) (db : b.den = .bool y) : CRel ρ (.e (mkBeq a b)) (.bool (x == y)) := by
  unfold mkBeq
  split
  · simp [SE.den] at da db
    subst da db
    exact ⟨rfl, .b, rfl, _, rfl⟩
  · exact ⟨by simp [SE.den, da, db, tru], .b, rfl, _, rfl⟩
theorem mkSeq_rel {a b : SE} {x y : ByteArray} (da : a.den = .string x) (db : b.den = .string y) : CRel ρ (.e (mkSeq a b)) (.bool (eqStr x y)) := by
  unfold mkSeq
  split
  · simp [SE.den] at da db
    subst da db
    exact ⟨rfl, .b, rfl, _, rfl⟩
  · exact ⟨by simp [SE.den, da, db, str], .b, rfl, _, rfl⟩
theorem mkNeg_rel {a : SE} {x : Bool} (da : a.den = .bool x) : CRel ρ (.e (mkNeg a)) (.bool (!x)) := by
  unfold mkNeg
  split
  · simp [SE.den] at da
    subst da
    exact ⟨rfl, .b, rfl, _, rfl⟩
  · exact ⟨by simp [SE.den, da, tru], .b, rfl, _, rfl⟩
theorem mkCon_rel {a b : SE} {x y : Bool} (da : CRel ρ (.e a) (.bool x)) (db : CRel ρ (.e b) (.bool y)) : CRel ρ (.e (mkCon a b)) (.bool (x && y)) := by
  unfold mkCon
  split
  · have := da.1; simp [SE.den] at this; subst this; simpa using db
  · have := da.1; simp [SE.den] at this; subst this; simpa using da
  · have := db.1; simp [SE.den] at this; subst this; simpa using da
  · exact ⟨by simp [SE.den, ← da.1, ← db.1, tru], .b, rfl, _, rfl⟩
theorem mkCv_rel (k : IntKind) {j : IntKind} {a : SE} {x : Int} (da : a.den = .int j x) (h0 : j.min ≤ x) (h1 : x ≤ j.max) : CRel ρ (.e (mkCv k j a)) (.int k (k.wrap x)) := by
  have w := wrap_within k x
  unfold mkCv
  split
  · simp [SE.den] at da
    obtain ⟨_, rfl⟩ := da
    exact ⟨rfl, .i k, rfl, _, rfl, w⟩
  · split
    · rename_i hw
      obtain ⟨a0, a1⟩ := widens_spec hw
      have e : k.wrap x = x := wrap_in k x (by omega) (by omega)
      rw [e]
      exact ⟨by simp [SE.den, da, num], .i k, rfl, _, rfl, by omega, by omega⟩
    · exact ⟨by simp [SE.den, da, num], .i k, rfl, _, rfl, w⟩
theorem mkMn_rel {k k' : IntKind} {a b : SE} {x y : Int} (da : a.den = .int k x) (db : b.den = .int k' y) (h0 : k.min ≤ x) (h1 : x ≤ k.max) (h2 : k.min ≤ y) (h3 : y ≤ k.max) :
    CRel ρ (.e (mkMn k a b)) (.int k (if y < x then y else x)) := by
  have w : k.min ≤ (if y < x then y else x) ∧ (if y < x then y else x) ≤ k.max := by split <;> omega
  unfold mkMn
  split
  · simp [SE.den] at da db
    obtain ⟨_, rfl⟩ := da
    obtain ⟨_, rfl⟩ := db
    exact ⟨rfl, .i k, rfl, _, rfl, w⟩
  · exact ⟨by simp [SE.den, da, db, num], .i k, rfl, _, rfl, w⟩
theorem mkMx_rel {k k' : IntKind} {a b : SE} {x y : Int} (da : a.den = .int k x) (db : b.den = .int k' y) (h0 : k.min ≤ x) (h1 : x ≤ k.max) (h2 : k.min ≤ y) (h3 : y ≤ k.max) :
    CRel ρ (.e (mkMx k a b)) (.int k (if y > x then y else x)) := by
  have w : k.min ≤ (if y > x then y else x) ∧ (if y > x then y else x) ≤ k.max := by split <;> omega
  unfold mkMx
  split
  · simp [SE.den] at da db
    obtain ⟨_, rfl⟩ := da
    obtain ⟨_, rfl⟩ := db
    exact ⟨rfl, .i k, rfl, _, rfl, w⟩
  · exact ⟨by simp [SE.den, da, db, num], .i k, rfl, _, rfl, w⟩
end
end Go.Proofs.YtjgmipklbpghfaaDoor

/- The symbolic evaluator: one operation is sound. No condition. -/
namespace Go.Proofs.YtjgmipklbpghfaaDoor
open Go.RowKit

structure HRel (B : Nat) (ρ : Rho) (H : List (Nat × Blk)) (w : World) : Prop where
  lt : ∀ n x, ρ n = some x → x < w.heap.size
  inj : ∀ n m x, ρ n = some x → ρ m = some x → n = m
  blk : ∀ n b x, find H n = some b → ρ n = some x → (b.own = true → B ≤ x) ∧ ∃ vs : List Value, w.heap[x]? = some (.cells vs.toArray b.elem (0, 0)) ∧ CsRel ρ b.cells vs

section
variable {P : Program} {w : World}

theorem run_size {t n : Nat} (h : sizeT P t = some n) : (sizeOf t).run P w = .ok n w := by
  unfold sizeT at h
  cases hi : P.info? t with
  | none => simp [hi] at h
  | some i => simp [hi] at h; subst h; simp [sizeOf, typeInfo, hi]
theorem run_agg {t : Nat} {b : Bool} (h : aggT P t = some b) : (isAgg t).run P w = .ok b w := by
  unfold aggT at h
  cases hu : P.underlying t with
  | none => simp [hu] at h
  | some d =>
    simp only [isAgg, Sem.run_bind, run_underlying hu, Result.andThen_ok]
    cases d <;> simp [hu] at h <;> subst h <;> rfl
theorem run_zero {t : Nat} {v : Value} (h : (P.info? t).bind (·.zero) = some v) : (zeroValue t).run P w = .ok v w := by
  cases hi : P.info? t with
  | none => simp [hi] at h
  | some i =>
    simp [hi] at h
    simp [zeroValue, typeInfo, hi, h]

theorem beq_len {n m : Nat} (h : Nat.beq n m = true) : n = m := Nat.eq_of_beq_eq_true h

theorem takeC_spec {cs r : List SC} {off n : Nat} (h : takeC cs off n = some r) : r = (cs.drop off).take n ∧ r.length = n := by
  simp only [takeC] at h
  split at h
  · rename_i hb
    simp at h
    exact ⟨h.symm, by rw [← h]; exact beq_len hb⟩
  · simp at h

theorem run_part {ρ : Rho} {t off : Nat} {cs : List SC} {vs : List Value} {p : SP} (h : partS P t cs off = some p) (hr : CsRel ρ cs vs) :
    ∃ v, (Go.part t vs.toArray off).run P w = .ok v w ∧ PRel ρ p v := by
  unfold partS at h
  cases ha : aggT P t with
  | none => simp [ha] at h
  | some b =>
    cases b with
    | true =>
      cases hs : sizeT P t with
      | none => simp [ha, hs] at h
      | some n =>
        simp only [ha, hs] at h
        cases ht : takeC cs off n with
        | none => simp [ht] at h
        | some r =>
          simp [ht] at h
          subst h
          obtain ⟨rfl, _⟩ := takeC_spec ht
          refine ⟨.agg ((vs.drop off).take n).toArray, ?_, (vs.drop off).take n, rfl, (hr.drop off).take n⟩
          simp only [Go.part, Sem.run_bind, run_agg ha, run_size hs, Result.andThen_ok, if_true, Sem.run_pure]
          congr 2
          simp
    | false =>
      simp only [ha] at h
      cases hc : cs[off]? with
      | none => simp [hc] at h
      | some c =>
        simp [hc] at h
        subst h
        obtain ⟨v, hv, hcr⟩ := hr.get hc
        refine ⟨v, ?_, hcr⟩
        simp [Go.part, run_agg ha, hv]

theorem cell_of {x off : Nat} {vs : List Value} {t : TypeId} {fr : Nat × Nat} (h : w.heap[x]? = some (.cells vs.toArray t fr)) : w.cell? ⟨x, off, none⟩ = vs[off]? := by
  simp [World.cell?, h]

theorem addr_add (b o n : Nat) : Addr.add ⟨b, o, none⟩ n = ⟨b, o + n, none⟩ := by
  unfold Addr.add
  split
  · rename_i h; subst h; rfl
  · rfl

theorem run_loadVar {B : Nat} {ρ : Rho} {H : List (Nat × Blk)} {t n x off : Nat} {b : Blk} {p : SP} (hH : HRel B ρ H w) (hb : find H n = some b) (hx : ρ n = some x) (h : partS P t b.cells off = some p) :
    ∃ v, (loadVar t ⟨x, off, none⟩).run P w = .ok v w ∧ PRel ρ p v := by
  obtain ⟨_, vs, hcell, hr⟩ := hH.blk n b x hb hx
  unfold partS at h
  cases ha : aggT P t with
  | none => simp [ha] at h
  | some g =>
    cases g with
    | true =>
      cases hs : sizeT P t with
      | none => simp [ha, hs] at h
      | some n =>
        simp only [ha, hs] at h
        cases ht : takeC b.cells off n with
        | none => simp [ht] at h
        | some r =>
          simp [ht] at h
          subst h
          obtain ⟨hr', hlen⟩ := takeC_spec ht
          have hl : ((vs.drop off).take n).length = n := by
            have := ((hr.drop off).take n).length
            rw [← this, ← hr', hlen]
          refine ⟨.agg ((vs.drop off).take n).toArray, ?_, (vs.drop off).take n, rfl, by rw [hr']; exact (hr.drop off).take n⟩
          have hld := run_loadCells_list (P := P) w ⟨x, off, none⟩ ((vs.drop off).take n) (fun j v hj => by
            rw [addr_add, cell_of hcell]
            rw [List.getElem?_take] at hj
            split at hj
            · rw [List.getElem?_drop] at hj; exact hj
            · simp at hj)
          rw [hl] at hld
          simp only [loadVar, Sem.run_bind, run_agg ha, run_size hs, Result.andThen_ok, if_true, Sem.run_pure, hld]
    | false =>
      simp only [ha] at h
      cases hc : b.cells[off]? with
      | none => simp [hc] at h
      | some c =>
        simp [hc] at h
        subst h
        obtain ⟨v, hv, hcr⟩ := hr.get hc
        refine ⟨v, ?_, hcr⟩
        simp [loadVar, run_agg ha, cell_of hcell, hv]

/-- Cells off, off + 1 .. replaced. -/
def putV (cs : List Value) (off : Nat) : List Value → List Value
  | [] => cs
  | c :: new => putV (cs.set off c) (off + 1) new
theorem putV_length : ∀ (new cs : List Value) (off : Nat), (putV cs off new).length = cs.length
  | [], _, _ => rfl
  | _ :: new, _, _ => by simp [putV, putV_length new]
theorem put_rel {ρ : Rho} : ∀ {new : List SC} {us : List Value} {cs : List SC} {vs : List Value} (off : Nat), CsRel ρ cs vs → CsRel ρ new us → CsRel ρ (putC cs off new) (putV vs off us)
  | [], [], _, _, _, h, _ => h
  | _ :: _, _ :: _, _, _, off, h, ⟨a, k⟩ => put_rel (off + 1) (h.set off a) k
  | [], _ :: _, _, _, _, _, h => h.elim
  | _ :: _, [], _, _, _, _, h => h.elim

theorem CsRel.ones {ρ : Rho} : ∀ {cs : List SC} {vs : List Value}, CsRel ρ cs vs → ∀ v ∈ vs, v.oneCell' = true
  | [], [], _, _, h => by simp at h
  | _ :: _, _ :: _, ⟨a, k⟩, v, h => by
    rcases List.mem_cons.1 h with rfl | h
    · exact a.one
    · exact CsRel.ones k v h
  | [], _ :: _, h, _, _ => h.elim
  | _ :: _, [], h, _, _ => h.elim

theorem setCell_heap (w : World) (x o : Nat) (vs : List Value) (t : TypeId) (v : Value) (h : w.heap[x]? = some (.cells vs.toArray t (0, 0))) :
    (w.setCell ⟨x, o, none⟩ v).heap[x]? = some (.cells (vs.set o v).toArray t (0, 0)) := by
  have hlt : x < w.heap.size := (Array.getElem?_eq_some_iff.1 h).1
  simp only [World.setCell, Array.getElem?_modify, if_true, h, Option.map_some]
  simp

theorem run_storeCells (x off : Nat) (t : TypeId) : ∀ (new : List Value) (i : Nat) (w : World) (vs : List Value), w.heap[x]? = some (.cells vs.toArray t (0, 0)) → off + i + new.length ≤ vs.length → (∀ v ∈ new, v.oneCell' = true) →
    ∃ w', (storeCells ⟨x, off, none⟩ new i).run P w = .ok () w' ∧ w'.heap[x]? = some (.cells (putV vs (off + i) new).toArray t (0, 0)) ∧ (∀ y, y ≠ x → w'.heap[y]? = w.heap[y]?) ∧ w'.heap.size = w.heap.size ∧ w'.os = w.os ∧ w'.tape = w.tape ∧ w'.output = w.output
  | [], i, w, vs, h, _, _ => ⟨w, by simp [storeCells], h, fun _ _ => rfl, rfl, rfl, rfl, rfl⟩
  | v :: new, i, w, vs, h, hl, ho => by
    simp only [List.length_cons] at hl
    have hone := ho v (by simp)
    obtain ⟨w', h1, h2, h3, h4, h5, h6, h7⟩ := run_storeCells x off t new (i + 1) (w.setCell ⟨x, off + i, none⟩ v) (vs.set (off + i) v) (setCell_heap w x (off + i) vs t v h) (by simp; omega) (fun u hu => ho u (by simp [hu]))
    refine ⟨w', ?_, ?_, fun y hy => ?_, ?_, h5, h6, h7⟩
    · have hc : w.cell? ⟨x, off + i, none⟩ = some (vs[off + i]'(by omega)) := by rw [cell_of h]; exact List.getElem?_eq_getElem (by omega)
      have hf : w.frozen? ⟨x, off + i, none⟩ = false := by simp [World.frozen?, h]
      simp only [storeCells, Sem.run_bind, addr_add, run_store P w _ v _ hone, hc, hf]
      exact h1
    · rw [h2]; rfl
    · rw [h3 y hy]; simp only [World.setCell, Array.getElem?_modify]; rw [if_neg (fun e => hy e.symm)]
    · rw [h4]; simp [World.setCell]

theorem find_upd : ∀ (H : List (Nat × Blk)) (n m : Nat) (cs : List SC) (b : Blk), find (upd H n cs) m = some b → (m = n ∧ ∃ b0, find H n = some b0 ∧ b = { b0 with cells := cs }) ∨ (m ≠ n ∧ find H m = some b)
  | [], _, _, _, _, h => by simp [upd, find] at h
  | (k, x) :: H, n, m, cs, b, h => by
    simp only [upd] at h
    cases hkn : Nat.beq k n with
    | true =>
      have ekn := beq_len hkn
      subst ekn
      simp only [hkn, if_true, find] at h ⊢
      cases hkm : Nat.beq k m with
      | true =>
        have ekm := beq_len hkm
        subst ekm
        simp only [hkm, if_true] at h
        simp at h
        exact .inl ⟨rfl, x, rfl, h.symm⟩
      | false =>
        simp only [hkm] at h
        exact .inr ⟨fun e => by subst e; rw [hkn] at hkm; exact Bool.noConfusion hkm, by simpa using h⟩
    | false =>
      simp only [hkn] at h
      simp only [find] at h ⊢
      cases hkm : Nat.beq k m with
      | true =>
        have ekm := beq_len hkm
        subst ekm
        simp only [Bool.false_eq_true, if_false, find, hkm, if_true] at h
        refine .inr ⟨fun e => by subst e; rw [hkn] at hkm; exact Bool.noConfusion hkm, by simpa using h⟩
      | false =>
        simp only [Bool.false_eq_true, if_false, find, hkm] at h
        simpa [hkn] using find_upd H n m cs b h

theorem HRel.store {B : Nat} {ρ : Rho} {H : List (Nat × Blk)} {n x : Nat} {b : Blk} {off : Nat} {new : List SC} {us : List Value} (hH : HRel B ρ H w) (hb : find H n = some b) (hx : ρ n = some x) (ho : b.own = true)
    (hl : off + new.length ≤ b.cells.length) (hn : CsRel ρ new us) : ∃ w', (storeCells ⟨x, off, none⟩ us).run P w = .ok () w' ∧ HRel B ρ (upd H n (putC b.cells off new)) w' ∧ Below B w w' ∧ w'.heap.size = w.heap.size ∧ ∀ y, y ≠ x → w'.heap[y]? = w.heap[y]? := by
  obtain ⟨hB, vs, hcell, hr⟩ := hH.blk n b x hb hx
  have l1 := hr.length
  have l2 := hn.length
  obtain ⟨w', h1, h2, h3, h4, h5, h6, h7⟩ := run_storeCells (P := P) x off b.elem us 0 w vs hcell (by omega) hn.ones
  refine ⟨w', h1, ⟨fun n x h => by rw [h4]; exact hH.lt n x h, hH.inj, fun m c y hm hy => ?_⟩, ⟨h5, h6, h7, by omega, fun k hk => h3 k (by have := hB ho; omega)⟩, h4, h3⟩
  rcases find_upd H n m _ c hm with ⟨rfl, b0, hb0, rfl⟩ | ⟨hne, hm'⟩
  · rw [hb] at hb0
    cases hb0
    rw [hx] at hy
    cases hy
    exact ⟨hB, _, h2, put_rel off hr hn⟩
  · obtain ⟨q0, q1, q2, q3⟩ := hH.blk m c y hm' hy
    refine ⟨q0, q1, ?_, q3⟩
    rw [h3 y (fun e => hne (hH.inj m n y hy (by rw [hx, e])))]
    exact q2
end

/-! The arithmetic of the model. -/
section
variable {P : Program} {w : World} {ρ : Rho}

def Eff (P : Program) (B : Nat) (ρ : Rho) (H : List (Nat × Blk)) (w : World) (s : Sem Next) : Res → Prop
  | .val sv => ∃ v, s.run P w = .ok (.value v) w ∧ VRel ρ sv v
  | .blk cs t => ∃ vs : List Value, s.run P w = .ok (.value (.pointer (some ⟨w.heap.size, 0, none⟩))) (w.alloc (.cells vs.toArray t)) ∧ CsRel ρ cs vs
  | .sl cs t len => ∃ vs : List Value, s.run P w = .ok (.value (.slice (some ⟨w.heap.size, 0, none⟩) len len)) (w.alloc (.cells vs.toArray t)) ∧ CsRel ρ cs vs
  | .st n cs off new => ∃ w', s.run P w = .ok .skip w' ∧ HRel B ρ (upd H n (putC cs off new)) w' ∧ Below B w w' ∧ w'.heap.size = w.heap.size ∧ ∃ x b, ρ n = some x ∧ find H n = some b ∧ ∀ y, y ≠ x → w'.heap[y]? = w.heap[y]?

theorem vE_some {x : SE} {r : Res} (h : (vE x).den = some r) : r = .val (.p (.c (.e x))) := by simp [vE, Tree.den] at h; exact h.symm

theorem run_shift (op : BinOp) (hop : op = .shl ∨ op = .shr) (t : TypeId) (k k' : IntKind) (x y : Int) (hy : 0 ≤ y) : (binOp op t (.int k x) (.int k' y)).run P w = .ok (.int k (binI op k x y)) w := by
  rcases hop with rfl | rfl <;> simp [binOp, Op.shift, binI, show ¬ y < 0 by omega]

theorem run_arith (op : BinOp) (hop : op = .add ∨ op = .sub ∨ op = .mul ∨ op = .and ∨ op = .or ∨ op = .xor ∨ op = .andNot) (t : TypeId) (k : IntKind) (x y : Int) : (binOp op t (.int k x) (.int k y)).run P w = .ok (.int k (binI op k x y)) w := by
  rcases hop with rfl | rfl | rfl | rfl | rfl | rfl | rfl <;> simp [binOp, Op.intArith, Op.intBits, binI, bits]

theorem run_div (op : BinOp) (hop : op = .quo ∨ op = .rem) (t : TypeId) (k : IntKind) (x y : Int) (hy : y ≠ 0) : (binOp op t (.int k x) (.int k y)).run P w = .ok (.int k (binI op k x y)) w := by
  rcases hop with rfl | rfl <;> simp [binOp, Op.intDiv, binI, hy]

theorem run_cmp (op : BinOp) (hop : isCmp op = true) (t : TypeId) (k : IntKind) (x y : Int) : (binOp op t (.int k x) (.int k y)).run P w = .ok (.bool (cmpB op x y)) w := by
  cases op <;> simp [isCmp] at hop <;> simp [binOp, Op.intCmp, cmpB]

/-- The run of a binary operation, behind its guard. -/
theorem exec_bin {e : Operand → Value} {o : Oper} {op : BinOp} {t yt : TypeId} {x y : Operand} {v : Value} (ho : o.op = .binOp op t x y yt) (hg : (eqGuard op t x y (e x) (e y)).run P w = .ok () w) (h : (binOp op t (e x) (e y)).run P w = .ok v w) :
    (execOp e o).run P w = .ok (.value v) w := by
  simp only [execOp, ho, Sem.run_bind, hg, h, Result.andThen_ok, Sem.run_pure]

theorem binE_sound {op : BinOp} {t : TypeId} {k k' : IntKind} {a b : SE} {x y : Int} {r : Res} (da : a.den = .int k x) (db : b.den = .int k' y) (a0 : k.min ≤ x) (a1 : x ≤ k.max) (b0 : k'.min ≤ y)
    (hh : (binE op k k' a b).den = some r) : ∃ v c, (binOp op t (.int k x) (.int k' y)).run P w = .ok v w ∧ r = .val (.p (.c (.e c))) ∧ CRel ρ (.e c) v := by
  have hsh : ∀ op, (op = .shl ∨ op = .shr) → (if shiftOk k' b = true then vE (mkBin op k a b) else .fail).den = some r → ∃ v c, (binOp op t (.int k x) (.int k' y)).run P w = .ok v w ∧ r = .val (.p (.c (.e c))) ∧ CRel ρ (.e c) v := by
    intro op hop h
    split at h
    · rename_i hs
      have hy : 0 ≤ y := by
        simp only [shiftOk, Bool.or_eq_true] at hs
        rcases hs with hs | hs
        · cases k' <;> simp [unsg] at hs <;> exact b0
        · split at hs
          · simp [SE.den] at db
            obtain ⟨_, rfl⟩ := db
            simpa using hs
          · simp at hs
      exact ⟨_, _, run_shift op hop t k k' x y hy, vE_some h, mkBin_rel op da db a0 a1⟩
    · simp [Tree.den] at h
  have har : ∀ op, (op = .add ∨ op = .sub ∨ op = .mul ∨ op = .and ∨ op = .or ∨ op = .xor ∨ op = .andNot) → (if binEqIK k k' = true then vE (mkBin op k a b) else .fail).den = some r → ∃ v c, (binOp op t (.int k x) (.int k' y)).run P w = .ok v w ∧ r = .val (.p (.c (.e c))) ∧ CRel ρ (.e c) v := by
    intro op hop h
    split at h
    · rename_i hk
      obtain rfl := eqIK hk
      exact ⟨_, _, run_arith op hop t k' x y, vE_some h, mkBin_rel op da db a0 a1⟩
    · simp [Tree.den] at h
  have hdv : ∀ op, (op = .quo ∨ op = .rem) → (if binEqIK k k' = true then
      (match b with
      | .lit (.int _ n) => if decide (n = 0) then Tree.fail else vE (mkBin op k a b)
      | b => Tree.ite (.cmp .eql b (.lit (.int k 0))) Tree.fail (vE (mkBin op k a b)))
    else Tree.fail).den = some r → ∃ v c, (binOp op t (.int k x) (.int k' y)).run P w = .ok v w ∧ r = .val (.p (.c (.e c))) ∧ CRel ρ (.e c) v := by
    intro op hop h
    split at h
    · rename_i hk
      obtain rfl := eqIK hk
      split at h
      · split at h
        · simp [Tree.den] at h
        · rename_i hz
          have hn := db
          simp [SE.den] at hn
          obtain ⟨_, rfl⟩ := hn
          exact ⟨_, _, run_div op hop t k' x _ (by simpa using hz), vE_some h, mkBin_rel op da db a0 a1⟩
      · simp only [Tree.den, SE.den, db, num, tru, cmpB] at h
        cases hz : (y == 0) with
        | true => simp [hz] at h
        | false =>
          simp only [hz, cond_false] at h
          exact ⟨_, _, run_div op hop t k' x _ (by simpa using hz), vE_some h, mkBin_rel op da db a0 a1⟩
    · simp [Tree.den] at h
  have hcm : ∀ op, (if (isCmp op && binEqIK k k') = true then vE (mkCmp op a b) else .fail).den = some r → ∃ v c, (binOp op t (.int k x) (.int k' y)).run P w = .ok v w ∧ r = .val (.p (.c (.e c))) ∧ CRel ρ (.e c) v := by
    intro op h
    split at h
    · rename_i hk
      simp only [Bool.and_eq_true] at hk
      obtain rfl := eqIK hk.2
      exact ⟨_, _, run_cmp op hk.1 t k' x y, vE_some h, mkCmp_rel op da db⟩
    · simp [Tree.den] at h
  cases op <;> simp only [binE] at hh <;> first
    | exact hsh _ (by simp) hh
    | exact har _ (by simp) hh
    | exact hdv _ (by simp) hh
    | exact hcm _ hh
end
end Go.Proofs.YtjgmipklbpghfaaDoor

/- The symbolic evaluator: every operation that is no call of a Go function is sound. No condition. -/
namespace Go.Proofs.YtjgmipklbpghfaaDoor
open Go.RowKit

section
variable {P : Program} {w : World} {ρ : Rho}

def EqOk (P : Program) (w : World) (ρ : Rho) (d : Nat) (rec : TypeId → SP → SP → Option SE) : Prop :=
  ∀ t x y c v u, rec t x y = some c → PRel ρ x v → PRel ρ y u → ∃ b, (Op.equalIn d t v u).run P w = .ok b w ∧ CRel ρ (.e c) (.bool b)

theorem eqFs_sound {d : Nat} {rec : TypeId → SP → SP → Option SE} (hrec : EqOk P w ρ d rec) {xs ys : List SC} {vs us : List Value} (hx : CsRel ρ xs vs) (hy : CsRel ρ ys us) :
    ∀ (fs : List Field) (c : SE), eqFs rec P xs ys fs = some c → ∃ b, (Op.eqFields d vs.toArray us.toArray fs).run P w = .ok b w ∧ CRel ρ (.e c) (.bool b)
  | [], c, h => by
    simp [eqFs] at h
    subst h
    exact ⟨true, by simp [Op.eqFields], rfl, .b, rfl, _, rfl⟩
  | f :: fs, c, h => by
    simp only [eqFs] at h
    split at h
    · simp at h
    · rename_i hn
      split at h
      · rename_i a b ha hb
        split at h
        · rename_i c1 c2 h1 h2
          simp at h
          subst h
          obtain ⟨va, ra, pa⟩ := run_part (P := P) (w := w) ha hx
          obtain ⟨vb, rb, pb⟩ := run_part (P := P) (w := w) hb hy
          obtain ⟨r1, e1, k1⟩ := hrec _ _ _ _ _ _ h1 pa pb
          obtain ⟨r2, e2, k2⟩ := eqFs_sound hrec hx hy fs c2 h2
          have hn' : f.name ≠ "_" := by simpa using hn
          refine ⟨r1 && r2, ?_, mkCon_rel k1 k2⟩
          simp only [Op.eqFields, if_pos hn', Sem.run_bind, ra, rb, e1, Result.andThen_ok]
          cases r1 <;> simp [e2]
        · simp at h
      · simp at h

theorem eqEs_sound {d : Nat} {rec : TypeId → SP → SP → Option SE} (hrec : EqOk P w ρ d rec) {xs ys : List SC} {vs us : List Value} (hx : CsRel ρ xs vs) (hy : CsRel ρ ys us) (e n : Nat) :
    ∀ (len i : Nat) (c : SE), eqEs rec P e n xs ys i len = some c → ∃ b, (Op.eqItems d e n vs.toArray us.toArray (List.range' i len)).run P w = .ok b w ∧ CRel ρ (.e c) (.bool b)
  | 0, i, c, h => by
    simp [eqEs] at h
    subst h
    exact ⟨true, by simp [Op.eqItems], rfl, .b, rfl, _, rfl⟩
  | len + 1, i, c, h => by
    simp only [eqEs] at h
    split at h
    · rename_i a b ha hb
      split at h
      · rename_i c1 c2 h1 h2
        simp at h
        subst h
        obtain ⟨va, ra, pa⟩ := run_part (P := P) (w := w) ha hx
        obtain ⟨vb, rb, pb⟩ := run_part (P := P) (w := w) hb hy
        obtain ⟨r1, e1, k1⟩ := hrec _ _ _ _ _ _ h1 pa pb
        obtain ⟨r2, e2, k2⟩ := eqEs_sound hrec hx hy e n len (i + 1) c2 h2
        refine ⟨r1 && r2, ?_, mkCon_rel k1 k2⟩
        simp only [List.range'_succ, Op.eqItems, Sem.run_bind, ra, rb, e1, Result.andThen_ok]
        cases r1 <;> simp [e2]
      · simp at h
    · simp at h

theorem eqS_sound : ∀ d, EqOk P w ρ d (eqS P d)
  | 0 => by intro t x y c v u h; simp [eqS] at h
  | d + 1 => by
    intro t x y c v u h hx hy
    unfold eqS at h
    split at h
    · rename_i hu
      split at h
      · rename_i ka kb
        simp at h
        subst h
        obtain ⟨p, rfl, da⟩ := erel_bool (ρ := ρ) hx ka
        obtain ⟨q, rfl, db⟩ := erel_bool (ρ := ρ) hy kb
        exact ⟨p == q, by simp [Op.equalIn, run_underlying hu], mkBeq_rel da db⟩
      · simp at h
    · rename_i kk hu
      split at h
      · rename_i k k' ka kb
        split at h
        · rename_i hk
          obtain rfl := eqIK hk
          simp at h
          subst h
          obtain ⟨p, rfl, da, _⟩ := erel_int (ρ := ρ) hx ka
          obtain ⟨q, rfl, db, _⟩ := erel_int (ρ := ρ) hy kb
          exact ⟨p == q, by simp [Op.equalIn, run_underlying hu], mkCmp_rel .eql da db⟩
        · simp at h
      · simp at h
    · rename_i fs xs ys hu
      split at h
      · simp at h
      · rename_i hst
        obtain ⟨vs, rfl, rx⟩ := hx
        obtain ⟨us, rfl, ry⟩ := hy
        obtain ⟨b, e, k⟩ := eqFs_sound (eqS_sound d) rx ry fs.toList c h
        have hf : P.fieldsOf t = fs := by simp [Program.fieldsOf, hu]
        refine ⟨b, ?_, k⟩
        rw [run_equalIn_struct w d t vs.toArray us.toArray (by rw [hf]; exact hu) (by simpa using hst), hf]
        exact e
    · rename_i len e xs ys hu
      split at h
      · rename_i n hs
        obtain ⟨vs, rfl, rx⟩ := hx
        obtain ⟨us, rfl, ry⟩ := hy
        obtain ⟨b, r, k⟩ := eqEs_sound (eqS_sound d) rx ry e n len 0 c h
        unfold sizeT at hs
        cases hi : P.info? e with
        | none => simp [hi] at hs
        | some i =>
          have hc : P.cellsOf e = n := by simp [hi] at hs; simp [Program.cellsOf, hi, hs]
          refine ⟨b, ?_, k⟩
          rw [run_equalIn_array w d vs.toArray us.toArray hu hi, hc, List.range_eq_range']
          exact r
      · simp at h
    · simp at h

theorem run_eql_bool {t : TypeId} (p q : Bool) (h : P.underlying t = some .bool) : (binOp .eql t (.bool p) (.bool q)).run P w = .ok (.bool (p == q)) w := by
  have e := run_equalIn_bool' (P := P) w 9999 t p q h
  simp only [binOp, Sem.run_bind]
  show ((Op.equalIn (9999 + 1) t (.bool p) (.bool q)).run P w).andThen _ = _
  rw [e]
  rfl
theorem run_neq_bool {t : TypeId} (p q : Bool) (h : P.underlying t = some .bool) : (binOp .neq t (.bool p) (.bool q)).run P w = .ok (.bool (!(p == q))) w := by
  have e := run_equalIn_bool' (P := P) w 9999 t p q h
  simp only [binOp, Sem.run_bind]
  show ((Op.equalIn (9999 + 1) t (.bool p) (.bool q)).run P w).andThen _ = _
  rw [e]
  rfl

theorem binStep_sound {B : Nat} {H : List (Nat × Blk)} {e : Operand → Value} {o : Oper} {op : BinOp} {t yt : TypeId} {x y : Operand} {a b : SP} {r : Res} (ho : o.op = .binOp op t x y yt)
    (hx : PRel ρ a (e x)) (hy : PRel ρ b (e y)) (h : (binStep P op t a b).den = some r) : Eff P B ρ H w (execOp e o) r := by
  unfold binStep at h
  split at h
  · rename_i a b
    split at h
    · rename_i k k' ka kb
      obtain ⟨p, ep, da, p0, p1⟩ := erel_int (ρ := ρ) hx ka
      obtain ⟨q, eq, db, q0, q1⟩ := erel_int (ρ := ρ) hy kb
      obtain ⟨v, c, hr, rfl, hc⟩ := binE_sound (P := P) (w := w) (ρ := ρ) (t := t) da db p0 p1 q0 h
      exact ⟨v, exec_bin ho (by rw [ep, eqGuard_at_int]; rfl) (by rw [ep, eq]; exact hr), hc⟩
    · rename_i ka kb
      obtain ⟨p, ep, da⟩ := erel_bool (ρ := ρ) hx ka
      obtain ⟨q, eq, db⟩ := erel_bool (ρ := ρ) hy kb
      have hg : (eqGuard op t x y (e x) (e y)).run P w = .ok () w := by rw [ep, eqGuard_at_bool]; rfl
      split at h
      · rename_i hu
        obtain rfl := vE_some h
        exact ⟨.bool (p == q), exec_bin ho hg (by rw [ep, eq]; exact run_eql_bool p q hu), mkBeq_rel (ρ := ρ) da db⟩
      · rename_i hu
        obtain rfl := vE_some h
        exact ⟨.bool (!(p == q)), exec_bin ho hg (by rw [ep, eq]; exact run_neq_bool p q hu), mkNeg_rel (ρ := ρ) (mkBeq_rel (ρ := ρ) da db).1.symm⟩
      · simp [Tree.den] at h
    · rename_i ka kb
      obtain ⟨p, ep, da⟩ := erel_str (ρ := ρ) hx ka
      obtain ⟨q, eq, db⟩ := erel_str (ρ := ρ) hy kb
      have hg : (eqGuard op t x y (e x) (e y)).run P w = .ok () w := by rw [ep, eqGuard_at_string]; rfl
      split at h
      · obtain rfl := vE_some h
        exact ⟨.bool (eqStr p q), exec_bin ho hg (by rw [ep, eq, eqStr_eq]; simp [binOp, Op.stringOp]), mkSeq_rel (ρ := ρ) da db⟩
      · obtain rfl := vE_some h
        exact ⟨.bool (!(eqStr p q)), exec_bin ho hg (by rw [ep, eq, eqStr_eq]; simp [binOp, Op.stringOp]), mkNeg_rel (ρ := ρ) (mkSeq_rel (ρ := ρ) da db).1.symm⟩
      · simp [Tree.den] at h
    · simp [Tree.den] at h
  · rename_i xs ys
    split at h
    · simp [Tree.den] at h
    · rename_i hgt
      obtain ⟨vs, ev, rx⟩ := hx
      obtain ⟨us, eu, ry⟩ := hy
      have hg : (eqGuard op t x y (e x) (e y)).run P w = .ok () w := by rw [ev, eu]; exact run_eqGuard_agg w op t x y vs.toArray us.toArray (by simpa using hgt)
      split at h
      · rename_i c hc
        obtain rfl := vE_some h
        obtain ⟨b, hr, hk⟩ := eqS_sound (w := w) (ρ := ρ) 10000 t (.agg xs) (.agg ys) c _ _ hc ⟨vs, rfl, rx⟩ ⟨us, rfl, ry⟩
        exact ⟨.bool b, exec_bin ho hg (by rw [ev, eu, run_eql_struct, hr]; rfl), hk⟩
      · rename_i c hc
        obtain rfl := vE_some h
        obtain ⟨b, hr, hk⟩ := eqS_sound (w := w) (ρ := ρ) 10000 t (.agg xs) (.agg ys) c _ _ hc ⟨vs, rfl, rx⟩ ⟨us, rfl, ry⟩
        exact ⟨.bool (!b), exec_bin ho hg (by rw [ev, eu, run_neq_struct, hr]; rfl), mkNeg_rel (ρ := ρ) hk.1.symm⟩
      · simp [Tree.den] at h
  · simp [Tree.den] at h

/-! 'build' -/
theorem foldl_put : ∀ (vs : List Value) (cs : List Value) (off i : Nat), ((vs.zipIdx i).foldl (fun (cs : Array Value) (c, j) => cs.setIfInBounds (off + j) c) cs.toArray) = (putV cs (off + i) vs).toArray
  | [], _, _, _ => rfl
  | v :: vs, cs, off, i => by
    simp only [List.zipIdx_cons, List.foldl_cons, putV, List.setIfInBounds_toArray]
    exact foldl_put vs _ off (i + 1)
theorem fill_sound (place : Nat → Option (Nat × Nat)) : ∀ (ps : List (Nat × SP)) (us : List (Nat × Value)) (cs : List SC) (vs : List Value) (ds : List SC), CsRel ρ cs vs →
    (ps.length = us.length ∧ ∀ (i : Nat) (p : Nat × SP) (u : Nat × Value), ps[i]? = some p → us[i]? = some u → p.1 = u.1 ∧ PRel ρ p.2 u.2) → fillS place cs ps = some ds → ∃ ws : List Value, Instr.fill place vs.toArray us = some ws.toArray ∧ CsRel ρ ds ws
  | [], [], cs, vs, ds, h, _, hf => by simp [fillS] at hf; subst hf; exact ⟨vs, rfl, h⟩
  | [], _ :: _, _, _, _, _, hp, _ => by simp at hp
  | _ :: _, [], _, _, _, _, hp, _ => by simp at hp
  | (i, v) :: ps, (j, u) :: us, cs, vs, ds, h, hp, hf => by
    obtain ⟨hl, hp⟩ := hp
    obtain ⟨e, hv⟩ := hp 0 _ _ rfl rfl
    simp only at e hv
    subst e
    simp only [fillS] at hf
    split at hf
    · simp at hf
    · rename_i off size hpl
      split at hf
      · simp at hf
      · rename_i hc
        simp only [Bool.not_eq_true, Bool.or_eq_false_iff, Bool.not_eq_false'] at hc
        have hc1 := beq_len hc.1
        have hc2 : ¬ cs.length < off + v.cells.length := fun hlt => by have h2 := hc.2; rw [Nat.blt, Nat.ble_eq_true_of_le (by omega)] at h2; exact Bool.noConfusion h2
        have hcr := hv.cells
        have l1 := hcr.length
        have l2 := h.length
        obtain ⟨ws, hw, hr⟩ := fill_sound place ps us (putC cs off v.cells) (putV vs off u.cells.toList) ds (put_rel off h hcr) ⟨by simpa using hl, fun n p q h1 h2 => hp (n + 1) p q (by simpa using h1) (by simpa using h2)⟩ hf
        refine ⟨ws, ?_, hr⟩
        simp only [Instr.fill, hpl]
        rw [if_neg (by
          simp at l1 ⊢
          omega)]
        rw [← hw]
        congr 1
        have := foldl_put u.cells.toList vs off 0
        simp only [Nat.add_zero] at this
        rw [← this, ← Array.foldl_toList]
        simp

theorem getPs_sound {g : Get} {e : Operand → Value} (hg : ∀ x sv, g x = some sv → VRel ρ sv (e x)) : ∀ (l : List (Nat × Operand)) (ps : List (Nat × SP)), getPs g l = some ps →
    ps.length = (l.map fun (i, x) => (i, e x)).length ∧ ∀ (i : Nat) (p : Nat × SP) (u : Nat × Value), ps[i]? = some p → (l.map fun (i, x) => (i, e x))[i]? = some u → p.1 = u.1 ∧ PRel ρ p.2 u.2
  | [], ps, h => by simp [getPs] at h; subst h; simp
  | (i, x) :: l, ps, h => by
    simp only [getPs] at h
    split at h
    · rename_i v r hv hr
      simp at h
      subst h
      obtain ⟨h1, h2⟩ := getPs_sound hg l r hr
      refine ⟨by simpa using h1, fun n p u hp hu => ?_⟩
      cases n with
      | zero =>
        simp at hp hu
        subst hp hu
        refine ⟨rfl, ?_⟩
        unfold getP at hv
        split at hv
        · rename_i y hy
          simp at hv
          subst hv
          exact hg x _ hy
        · simp at hv
      | succ n => exact h2 n p u (by simpa using hp) (by simpa using hu)
    · simp at h

theorem placesS_spec : ∀ (fs : List Field) (pl : List (Nat × Nat)), placesS P fs = some pl → fs.mapM (fun f => (P.info? f.type).map fun i => (f.offset, i.size)) = some pl
  | [], pl, h => by simp [placesS] at h; subst h; rfl
  | f :: fs, pl, h => by
    simp only [placesS] at h
    split at h
    · rename_i n r hn hr
      simp at h
      subst h
      have ih := placesS_spec fs r hr
      unfold sizeT at hn
      cases hi : P.info? f.type with
      | none => simp [hi] at hn
      | some i => simp [hi] at hn; simp [List.mapM_cons, hi, ih, hn]
    · simp at h

/-! Indexes. -/
theorem splitI_den {e : SE} {k : IntKind} {n : Int} (he : e.den = .int k n) {mk : Nat → Tree Res} {r : Res} : ∀ (c i : Nat), (splitI e k mk i c).den = some r → ∃ j : Nat, j < i + c ∧ n = j ∧ (mk j).den = some r
  | 0, i, h => by simp [splitI, Tree.den] at h
  | c + 1, i, h => by
    simp only [splitI, Tree.den, SE.den, he, num, cmpB, tru] at h
    cases hb : (n == (i : Int)) with
    | true =>
      rw [hb] at h
      exact ⟨i, by omega, by simpa using hb, h⟩
    | false =>
      rw [hb] at h
      obtain ⟨j, h1, h2⟩ := splitI_den he c (i + 1) h
      exact ⟨j, by omega, h2⟩
theorem atI_den {e : SE} {v : Value} (he : CRel ρ (.e e) v) {len : Nat} {mk : Nat → Tree Res} {r : Res} (h : (atI e len mk).den = some r) : ∃ (k : IntKind) (j : Nat), v = .int k j ∧ j < len ∧ (mk j).den = some r := by
  unfold atI at h
  split at h
  · rename_i k j
    split at h
    · rename_i hc
      simp at hc
      have hd := he.1
      simp only [SE.den] at hd
      exact ⟨k, j.toNat, by rw [hd]; congr 1; omega, by omega, h⟩
    · simp [Tree.den] at h
  · split at h
    · rename_i k hk
      obtain ⟨n, e1, e2, _⟩ := erel_int (ρ := ρ) he hk
      obtain ⟨j, h1, h2, h3⟩ := splitI_den e2 len 0 h
      exact ⟨k, j, by rw [e1, h2], by omega, h3⟩
    · simp [Tree.den] at h

theorem repC_rel {zs : List SC} {vs : List Value} (h : CsRel ρ zs vs) (hz : 0 < vs.length) (n : Nat) : CsRel ρ (repC zs n) ((List.range n).map fun i => vs.toArray[i % vs.toArray.size]!) := by
  unfold repC
  generalize List.range n = l
  induction l with
  | nil => trivial
  | cons i l ih =>
    refine ⟨?_, ih⟩
    have hl := h.length
    have hi : i % vs.length < vs.length := Nat.mod_lt _ hz
    obtain ⟨v, hv, hr⟩ := h.get (i := i % vs.length) (c := zs.getD (i % vs.length) (.e (.lit (.bool false)))) (by
      rw [List.getD_eq_getElem?_getD, List.getElem?_eq_getElem (by omega)]; rfl)
    rw [hl]
    have e : vs.toArray[i % vs.toArray.size]! = v := by
      rw [List.size_toArray]
      simp [hv]
    show CRel ρ _ (vs.toArray[i % vs.toArray.size]!)
    rw [e]
    exact hr

section gets
variable {g : Get} {e : Operand → Value} (hg : ∀ x sv, g x = some sv → VRel ρ sv (e x))
include hg
theorem getP_rel {x : Operand} {p : SP} (h : getP g x = some p) : PRel ρ p (e x) := by
  unfold getP at h
  split at h
  · rename_i y hy; simp at h; subst h; exact hg x _ hy
  · simp at h
theorem getE_rel {x : Operand} {p : SE} (h : getE g x = some p) : CRel ρ (.e p) (e x) := by
  unfold getE at h
  split at h
  · rename_i y hy; simp at h; subst h; exact hg x _ hy
  · simp at h
theorem getA_rel {x : Operand} {p : Nat × Nat} (h : getA g x = some p) : ∃ n, ρ p.1 = some n ∧ e x = .pointer (some ⟨n, p.2, none⟩) := by
  unfold getA at h
  split at h
  · rename_i y hy; simp at h; subst h; exact hg x _ hy
  · simp at h
theorem getSl_rel {x : Operand} {p : Nat × Nat × Nat} (h : getSl g x = some p) : ∃ n cap, ρ p.1 = some n ∧ e x = .slice (some ⟨n, p.2.1, none⟩) p.2.2 cap := by
  unfold getSl at h
  split at h
  · rename_i n off len cap hy; simp at h; subst h; obtain ⟨m, h1, h2⟩ := hg x _ hy; exact ⟨m, cap, h1, h2⟩
  · simp at h
theorem getAs_rel : ∀ (l : List Operand) (caps : List (Nat × Nat)), getAs g l = some caps → CapsRel ρ caps (l.map e)
  | [], caps, h => by simp [getAs] at h; subst h; trivial
  | x :: l, caps, h => by
    simp only [getAs] at h
    split at h
    · rename_i v r hv hr
      simp at h
      subst h
      exact ⟨getA_rel hg hv, getAs_rel l r hr⟩
    · simp at h
theorem getSs_rel : ∀ (l : List Operand) (ss : List SV), getSs g l = some ss → VsRel ρ ss (l.map e)
  | [], caps, h => by simp [getSs] at h; subst h; trivial
  | x :: l, caps, h => by
    simp only [getSs] at h
    split at h
    · rename_i v r hv hr
      simp at h
      subst h
      exact ⟨hg x _ hv, getSs_rel l r hr⟩
    · simp at h

theorem fold_min (k : IntKind) : ∀ (l : List Operand) (acc r : SE) (x : Int), CRel ρ (.e acc) (.int k x) → acc.kind = some (.i k) → foldE (mkMn k) k g acc l = some r →
    ∃ y, ((l.map e).foldlM Builtin.min2 (.int k x)).run P w = .ok (.int k y) w ∧ CRel ρ (.e r) (.int k y)
  | [], acc, r, x, ha, _, h => by simp [foldE] at h; subst h; exact ⟨x, by simp, ha⟩
  | z :: l, acc, r, x, ha, hk, h => by
    simp only [foldE] at h
    split at h
    · rename_i y hy
      split at h
      · rename_i k' ky
        split at h
        · rename_i hkk
          obtain rfl := eqIK hkk
          obtain ⟨q, eq, dq, q0, q1⟩ := erel_int (ρ := ρ) (getE_rel hg hy) ky
          obtain ⟨p, ep, dp, p0, p1⟩ := erel_int (ρ := ρ) ha hk
          cases ep
          have hm := mkMn_rel (ρ := ρ) dp dq p0 p1 q0 q1
          obtain ⟨y', r1, r2⟩ := fold_min k' l _ r _ hm (by unfold mkMn; split <;> rfl) h
          refine ⟨y', ?_, r2⟩
          simp only [List.map_cons, List.foldlM_cons, eq, Builtin.min2, Sem.run_bind, Sem.run_pure, Result.andThen_ok]
          exact r1
        · simp at h
      · simp at h
    · simp at h
theorem fold_max (k : IntKind) : ∀ (l : List Operand) (acc r : SE) (x : Int), CRel ρ (.e acc) (.int k x) → acc.kind = some (.i k) → foldE (mkMx k) k g acc l = some r →
    ∃ y, ((l.map e).foldlM Builtin.max2 (.int k x)).run P w = .ok (.int k y) w ∧ CRel ρ (.e r) (.int k y)
  | [], acc, r, x, ha, _, h => by simp [foldE] at h; subst h; exact ⟨x, by simp, ha⟩
  | z :: l, acc, r, x, ha, hk, h => by
    simp only [foldE] at h
    split at h
    · rename_i y hy
      split at h
      · rename_i k' ky
        split at h
        · rename_i hkk
          obtain rfl := eqIK hkk
          obtain ⟨q, eq, dq, q0, q1⟩ := erel_int (ρ := ρ) (getE_rel hg hy) ky
          obtain ⟨p, ep, dp, p0, p1⟩ := erel_int (ρ := ρ) ha hk
          cases ep
          have hm := mkMx_rel (ρ := ρ) dp dq p0 p1 q0 q1
          obtain ⟨y', r1, r2⟩ := fold_max k' l _ r _ hm (by unfold mkMx; split <;> rfl) h
          refine ⟨y', ?_, r2⟩
          simp only [List.map_cons, List.foldlM_cons, eq, Builtin.max2, Sem.run_bind, Sem.run_pure, Result.andThen_ok]
          exact r1
        · simp at h
      · simp at h
    · simp at h
end gets

/-! Slices among the arguments. -/
theorem isK_spec {κ : SK} {v : Value} (h : isK κ v = true) : inKind κ v := by
  unfold isK at h
  split at h
  · rename_i k k' n
    simp only [Bool.and_eq_true, decide_eq_true_eq] at h
    obtain rfl := eqIK h.1.1
    exact ⟨n, rfl, h.1.2, h.2⟩
  · exact ⟨_, rfl⟩
  · exact ⟨_, rfl⟩
  · cases h
theorem rdAll_spec {cell : Addr → Option Value} {a : Addr} : ∀ {κs : List SK} {i : Nat}, rdAll cell a i κs = true → ∀ (j : Nat) (κ : SK), κs[j]? = some κ → ∃ v, cell (a.add (i + j)) = some v ∧ inKind κ v
  | [], _, _, j, κ, hj => by simp at hj
  | κ0 :: κs, i, h, j, κ, hj => by
    simp only [rdAll, Bool.and_eq_true] at h
    cases j with
    | zero =>
      simp at hj
      subst hj
      have h1 := h.1
      split at h1
      · rename_i v hv; exact ⟨v, hv, isK_spec h1⟩
      · cases h1
    | succ j =>
      have := rdAll_spec (i := i + 1) h.2 j κ (by simpa using hj)
      rwa [show i + 1 + j = i + (j + 1) by omega] at this
theorem rdL_get {cell : Addr → Option Value} {a : Addr} : ∀ {n i j : Nat}, j < n → (rdL cell a i n)[j]? = some ((cell (a.add (i + j))).getD undef)
  | 0, _, _, h => by omega
  | n + 1, i, 0, _ => by simp [rdL]
  | n + 1, i, j + 1, h => by
    have := rdL_get (cell := cell) (a := a) (n := n) (i := i + 1) (j := j) (by omega)
    rw [show i + 1 + j = i + (j + 1) by omega] at this
    simp only [rdL, List.getElem?_cons_succ]
    exact this
theorem rdL_length {cell : Addr → Option Value} {a : Addr} : ∀ {n i : Nat}, (rdL cell a i n).length = n
  | 0, _ => rfl
  | n + 1, i => by simp [rdL, rdL_length]
/-- Cells read one by one: what the expressions stand for. -/
theorem appsS_rel {f : Nat} {F : List Value → List Value} {args : List SE} {vs : List Value} (hF : F (denL args) = vs) : ∀ {κs : List SK} {j : Nat}, (∀ i κ, κs[i]? = some κ → ∃ v, vs[j + i]? = some v ∧ inKind κ v) → CsRel ρ (appsS f F args j κs) ((vs.drop j).take κs.length)
  | [], j, _ => by simp [appsS, CsRel]
  | κ :: κs, j, h => by
    obtain ⟨v, hv, hk⟩ := h 0 κ rfl
    rw [Nat.add_zero] at hv
    have hlt : j < vs.length := by
      rcases Nat.lt_or_ge j vs.length with q | q
      · exact q
      · rw [List.getElem?_eq_none q] at hv; cases hv
    have ev : vs[j] = v := by rw [List.getElem?_eq_getElem hlt] at hv; exact Option.some.inj hv
    rw [List.drop_eq_getElem_cons hlt, ev]
    simp only [appsS, List.length_cons, List.take_succ_cons]
    refine ⟨⟨?_, κ, rfl, hk⟩, appsS_rel hF fun i κ' hi => ?_⟩
    · simp only [SE.den, hF]
      rw [List.getD, hv]
      simp [hk.norm]
    · have := h (i + 1) κ' (by simpa using hi)
      rwa [show j + (i + 1) = j + 1 + i by omega] at this
theorem run_loadM {M : MemS} (hmem : ∀ a v, M.cell a = some v → w.cell? a = some v) {a : Addr} {κs : List SK} {t : TypeId} (hk : rdAll M.cell a 0 κs = true) (ha : aggT P t = some true) (hs : sizeT P t = some κs.length) :
    (loadVar t a).run P w = .ok (.agg (rdL M.cell a 0 κs.length).toArray) w := by
  have hld := run_loadCells_list (P := P) w a (rdL M.cell a 0 κs.length) (fun j v hj => by
    have hlt : j < κs.length := by
      rcases Nat.lt_or_ge j κs.length with q | q
      · exact q
      · rw [List.getElem?_eq_none (by rw [rdL_length]; exact q)] at hj; cases hj
    rw [rdL_get hlt, Nat.zero_add] at hj
    obtain ⟨u, hu, -⟩ := rdAll_spec hk j _ (List.getElem?_eq_getElem hlt)
    rw [Nat.zero_add] at hu
    rw [hu] at hj
    obtain rfl : u = v := Option.some.inj hj
    exact hmem _ _ hu)
  rw [rdL_length] at hld
  simp only [loadVar, Sem.run_bind, run_agg ha, run_size hs, Result.andThen_ok, if_true, Sem.run_pure, hld]
theorem run_loadM1 {M : MemS} (hmem : ∀ a v, M.cell a = some v → w.cell? a = some v) {a : Addr} {κ : SK} {t : TypeId} (hk : rdAll M.cell a 0 [κ] = true) (ha : aggT P t = some false) :
    ∃ v, (loadVar t a).run P w = .ok v w ∧ M.cell a = some v ∧ inKind κ v := by
  obtain ⟨v, hv, hi⟩ := rdAll_spec hk 0 κ rfl
  have e : a.add (0 + 0) = a := by simp [Addr.add]
  rw [e] at hv
  refine ⟨v, ?_, hv, hi⟩
  have := hmem _ _ hv
  simp [loadVar, run_agg ha, this]
theorem guard_den {α : Type} {f : Nat} {F : List Value → List Value} {args : List SE} {t : Tree α} {r : α} (h : (Tree.ite (.app f F 0 .b args) t .fail).den = some r) : tru ((F (denL args)).getD 0 undef) = true ∧ t.den = some r := by
  simp only [Tree.den, SE.den] at h
  change (bif tru ((F (denL args)).getD 0 undef) then t.den else none) = some r at h
  cases hb : tru ((F (denL args)).getD 0 undef) with
  | true => rw [hb] at h; exact ⟨rfl, h⟩
  | false => rw [hb] at h; cases h

section whole
variable {M : MemS} (hmem : ∀ a v, M.cell a = some v → w.cell? a = some v) {g : Get} {e : Operand → Value} (hg : ∀ x sv, g x = some sv → VRel ρ sv (e x)) {B : Nat} {H : List (Nat × Blk)} (hH : HRel B ρ H w)
include hmem hg hH
omit hmem hg hH in
theorem eff_val {o : Oper} {r : Res} {sv : SV} {v : Value} (h : (Tree.ret (Res.val sv)).den = some r) (hr : (execOp e o).run P w = .ok (.value v) w) (hv : VRel ρ sv v) : Eff P B ρ H w (execOp e o) r := by
  simp [Tree.den] at h
  subst h
  exact ⟨v, hr, hv⟩

omit hH in
theorem loadM_sound {o : Oper} {t : TypeId} {x : Operand} (ho : o.op = .load t x) {r : Res} (h : (loadM M P t (getE g x)).den = some r) : Eff P B ρ H w (execOp e o) r := by
  unfold loadM at h
  split at h
  · rename_i y hy
    have hr := getE_rel hg hy
    have hx : e x = y.den := hr.1
    split at h
    · rename_i n κs hk ha hs hp
      split at h
      · rename_i hn
        have hn := beq_len hn
        subst hn
        obtain ⟨h1, h2⟩ := guard_den h
        simp only [denL] at h1
        rw [← hx] at h1
        unfold rdK at h1
        split at h1
        · rename_i a hv
          have hv : e x = .pointer (some a) := by simpa using hv
          have hrd : rdAll M.cell a 0 κs = true := h1
          refine eff_val (v := .agg (rdL M.cell a 0 κs.length).toArray) h2 ?_ ⟨_, rfl, ?_⟩
          · simp [execOp, ho, Instr.loadAt, hv, Instr.sureAddr, run_loadM hmem hrd ha hs]
          · have hF : rdF M.cell κs.length (denL [y]) = rdL M.cell a 0 κs.length := by simp only [denL]; rw [← hx, hv]; rfl
            have := appsS_rel (ρ := ρ) (f := 2000000 + t) hF (κs := κs) (j := 0) fun i κ hi => by
              have hlt : i < κs.length := (List.getElem?_eq_some_iff.1 hi).1
              obtain ⟨u, hu, hki⟩ := rdAll_spec hrd i κ hi
              exact ⟨u, by rw [Nat.zero_add, rdL_get hlt, hu]; rfl, hki⟩
            rw [List.drop_zero, List.take_of_length_le (by rw [rdL_length]; exact Nat.le_refl _)] at this
            exact this
        · cases h1
      · simp [Tree.den] at h
    · rename_i κ hk ha hp
      obtain ⟨h1, h2⟩ := guard_den h
      simp only [denL] at h1
      rw [← hx] at h1
      unfold rdK at h1
      split at h1
      · rename_i a hv
        have hv : e x = .pointer (some a) := by simpa using hv
        obtain ⟨v, hl, hc, hi⟩ := run_loadM1 (P := P) hmem (show rdAll M.cell a 0 [κ] = true from h1) ha
        refine eff_val (v := v) h2 ?_ ⟨?_, κ, rfl, hi⟩
        · simp [execOp, ho, Instr.loadAt, hv, Instr.sureAddr, hl]
        · have e0 : a.add 0 = a := by simp [Addr.add]
          simp only [SE.den, denL]
          rw [← hx, hv]
          simp [rdF, rdL, e0, hc, hi.norm]
      · cases h1
    · simp [Tree.den] at h
  · simp [Tree.den] at h
omit hmem hH in
theorem indexM_sound {o : Oper} {t el s : Nat} {x i : Operand} (ho : o.op = .indexAddr t x i) (hu : P.underlying t = some (.slice el)) (hs : sizeT P el = some s) {j : SE} (hi : getE g i = some j) {r : Res} (h : (indexM s (getE g x) j).den = some r) : Eff P B ρ H w (execOp e o) r := by
  unfold indexM at h
  split at h
  · rename_i y hy
    have hx : e x = y.den := (getE_rel hg hy).1
    split at h
    · rename_i hk hkj
      obtain ⟨n, en, dn, n0, n1⟩ := erel_int (ρ := ρ) (getE_rel hg hi) hkj
      obtain ⟨h1, h2⟩ := guard_den h
      have dj : j.den = .int .i64 n := by rw [← en]; exact (getE_rel hg hi).1.symm
      simp only [denL, dj] at h1
      rw [← hx] at h1
      unfold ixF at h1
      split at h1
      · rename_i a len cap k q hv
        simp only [List.cons.injEq, Value.int.injEq, and_true] at hv
        obtain ⟨hv, rfl, rfl⟩ := hv
        have hr : 0 ≤ n ∧ n < len := by simpa [tru] using h1
        refine eff_val (v := .pointer (some (a.add (n.toNat * s)))) h2 ?_ ⟨?_, .o, rfl, rfl⟩
        · simp [execOp, ho, Instr.indexAt, run_underlying hu, hv, en, asIntOf, hr.1, hr.2, run_size hs]
        · simp only [SE.den, denL, dj]
          rw [← hx, hv]
          rfl
      · cases h1
    · simp [Tree.den] at h
  · simp [Tree.den] at h
omit hmem hH in
theorem lenM_sound {o : Oper} {t el : Nat} {x : Operand} (ho : o.op = .call { callee := .builtin .len, args := #[x], argTypes := #[t] }) (hu : P.underlying t = some (.slice el)) {r : Res} (h : (lenM (getE g x)).den = some r) : Eff P B ρ H w (execOp e o) r := by
  unfold lenM at h
  split at h
  · rename_i y hy
    have hx : e x = y.den := (getE_rel hg hy).1
    split at h
    · rename_i hk
      obtain ⟨h1, h2⟩ := guard_den h
      obtain rfl := vE_some h2
      simp only [denL] at h1
      rw [← hx] at h1
      unfold slF at h1
      split at h1
      · rename_i p n c hv
        have hv : e x = .slice p n c := by simpa using hv
        have hn : (n : Int) ≤ 9223372036854775807 := by simpa [tru] using h1
        refine ⟨.int .i64 n, ?_, ?_, .i .i64, rfl, n, rfl, ?_⟩
        · simp [execOp, ho, resolve, invoke, builtin, Builtin.len_, run_underlying hu, goInt, hv]
        · simp only [SE.den, denL]
          rw [← hx, hv]
          rfl
        · constructor
          · have : IntKind.i64.min ≤ 0 := by decide
            omega
          · have : (9223372036854775807 : Int) ≤ IntKind.i64.max := by decide
            omega
      · cases h1
    · simp [Tree.den] at h
  · simp [Tree.den] at h

set_option maxHeartbeats 1000000 in
theorem pure_sound {o : Oper} {r : Res} (h : (pureStep M P H g o.op).den = some r) : Eff P B ρ H w (execOp e o) r := by
  obtain ⟨dst, op, type, pos, after, guard⟩ := o
  simp only at h
  unfold pureStep at h
  split at h
  · -- move
    rename_i x
    split at h
    · rename_i v hv; exact eff_val h (by simp [execOp]) (hg _ _ hv)
    · simp [Tree.den] at h
  · -- assign
    rename_i x
    split at h
    · rename_i v hv; exact eff_val h (by simp [execOp]) (hg _ _ hv)
    · simp [Tree.den] at h
  · -- pick
    rename_i c a b
    split at h
    · rename_i hc
      have ec := (getE_rel hg hc).1
      simp only [SE.den] at ec
      split at h
      · rename_i v hv; exact eff_val h (by simp [execOp, ec, asBool]) (hg _ _ hv)
      · simp [Tree.den] at h
    · rename_i hc
      have ec := (getE_rel hg hc).1
      simp only [SE.den] at ec
      split at h
      · rename_i v hv; exact eff_val h (by simp [execOp, ec, asBool]) (hg _ _ hv)
      · simp [Tree.den] at h
    · rename_i c' _ _ hc
      split at h
      · rename_i u v hk hu hv
        obtain ⟨t, et, dt⟩ := erel_bool (ρ := ρ) (getE_rel hg hc) hk
        simp only [Tree.den, dt, tru] at h
        cases t with
        | true => exact eff_val h (by simp [execOp, et, asBool]) (hg _ _ hu)
        | false => exact eff_val h (by simp [execOp, et, asBool]) (hg _ _ hv)
      · simp [Tree.den] at h
    · simp [Tree.den] at h
  · -- alloc
    rename_i t
    split at h
    · rename_i v hz
      split at h
      · rename_i cs hc
        simp [Tree.den] at h
        subst h
        exact ⟨v.cells.toList, by simp [execOp, Instr.alloc, run_zero hz, newVar, newRow], ofCells_rel hc⟩
      · simp [Tree.den] at h
    · simp [Tree.den] at h
  · -- box
    rename_i t x
    split at h
    · rename_i v hv
      simp [Tree.den] at h
      subst h
      exact ⟨(e x).cells.toList, by simp [execOp, Instr.box, newVar, newRow], (getP_rel hg hv).cells⟩
    · simp [Tree.den] at h
  · -- build
    rename_i t parts
    split at h
    · rename_i z ps hz hp
      cases hi : P.info? t with
      | none => simp [hi] at hz
      | some it =>
        simp [hi] at hz
        split at h
        · rename_i zs fs hzs hu
          split at h
          · rename_i pl hpl
            split at h
            · rename_i cs hcs
              obtain ⟨ws, hw, hr⟩ := fill_sound (fun i => pl[i]?) ps _ zs z.cells.toList cs (ofCells_rel hzs) (getPs_sound hg parts.toList ps hp) hcs
              refine eff_val (v := .agg ws.toArray) h ?_ ⟨ws, rfl, hr⟩
              have hb : P.built t (parts.map fun (i, x) => (i, e x)).toList = some ws.toArray := by
                simp only [Program.built, hi, hu, hz, placesS_spec _ _ hpl]
                rw [← hw]
                simp
              simp only [execOp, Sem.run_bind, run_build w t _ _ hb, Result.andThen_ok, Sem.run_pure]
            · simp [Tree.den] at h
          · simp [Tree.den] at h
        · rename_i zs n el hzs hu
          split at h
          · rename_i n hs
            split at h
            · rename_i cs hcs
              obtain ⟨ws, hw, hr⟩ := fill_sound (fun i => some (i * n, n)) ps _ zs z.cells.toList cs (ofCells_rel hzs) (getPs_sound hg parts.toList ps hp) hcs
              refine eff_val (v := .agg ws.toArray) h ?_ ⟨ws, rfl, hr⟩
              have hb : P.built t (parts.map fun (i, x) => (i, e x)).toList = some ws.toArray := by
                unfold sizeT at hs
                cases hie : P.info? el with
                | none => simp [hie] at hs
                | some ie =>
                  simp [hie] at hs
                  subst hs
                  simp only [Program.built, hi, hu, hz, hie]
                  rw [← hw]
                  simp
              simp only [execOp, Sem.run_bind, run_build w t _ _ hb, Result.andThen_ok, Sem.run_pure]
            · simp [Tree.den] at h
          · simp [Tree.den] at h
        · simp [Tree.den] at h
    · simp [Tree.den] at h
  · -- load
    rename_i t x
    split at h
    · rename_i n off ha
      obtain ⟨q, hq, ex⟩ := getA_rel hg ha
      split at h
      · rename_i b hb
        split at h
        · rename_i p hp
          obtain ⟨v, hv, hr⟩ := run_loadVar (P := P) hH hb hq hp
          exact eff_val (v := v) h (by simp [execOp, Instr.loadAt, ex, Instr.sureAddr, hv]) hr
        · simp [Tree.den] at h
      · simp [Tree.den] at h
    · exact loadM_sound hmem hg (t := t) (x := x) rfl h
  · -- store
    rename_i t x y
    split at h
    · rename_i n off v ha hv
      obtain ⟨q, hq, ex⟩ := getA_rel hg ha
      split at h
      · rename_i b k hb hk
        split at h
        · rename_i hc
          simp only [Bool.and_eq_true] at hc
          have c1 := beq_len hc.1.2
          have c2 := Nat.le_of_ble_eq_true hc.2
          simp [Tree.den] at h
          subst h
          have hcr := (getP_rel hg hv).cells
          obtain ⟨w', h1, h2, h3, h4, h5⟩ := hH.store (P := P) (off := off) hb hq hc.1.1 (by omega) hcr
          have hl := hcr.length
          refine ⟨w', ?_, h2, h3, h4, q, b, hq, hb, h5⟩
          have hsz : ¬ (e y).cells.size ≠ k := by
            have : (e y).cells.toList.length = k := by omega
            simpa using this
          simp only [execOp, Instr.storeAt, ex, Instr.sureAddr, storeVar, Sem.run_bind, Sem.run_pure, Result.andThen_ok, run_size hk, Sem.run_ite, if_neg hsz]
          rw [h1]
          rfl
        · simp [Tree.den] at h
      · simp [Tree.den] at h
    · simp [Tree.den] at h
  · -- nilCheck
    rename_i x
    split at h
    · rename_i n off hx
      obtain ⟨q, hq, ex⟩ := hg _ _ hx
      exact eff_val (v := e x) h (by simp [execOp, ex]) (hg _ _ hx)
    · rename_i f c hx
      obtain ⟨q, hq, ex⟩ := hg _ _ hx
      exact eff_val (v := e x) h (by simp [execOp, ex]) (hg _ _ hx)
    · simp [Tree.den] at h
  · -- binOp
    rename_i bop t x y yt
    split at h
    · rename_i a b ha hb
      exact binStep_sound rfl (getP_rel hg ha) (getP_rel hg hb) h
    · simp [Tree.den] at h
  · -- neg
    rename_i xt x
    split at h
    · rename_i a ha
      split at h
      · rename_i k hk
        obtain rfl := vE_some h
        obtain ⟨n, en, dn, n0, n1⟩ := erel_int (ρ := ρ) (getE_rel hg ha) hk
        have hm : k.min ≤ 0 := by cases k <;> decide
        have hM : 0 ≤ k.max := by cases k <;> decide
        exact ⟨.int k (binI .sub k 0 n), by simp [execOp, en, Op.unary, Op.intArith, binI], mkBin_rel (ρ := ρ) .sub (a := .lit (.int k 0)) rfl dn hm hM⟩
      · simp [Tree.den] at h
    · simp [Tree.den] at h
  · -- not
    rename_i xt x
    split at h
    · rename_i a ha
      split at h
      · rename_i hk
        obtain rfl := vE_some h
        obtain ⟨n, en, dn⟩ := erel_bool (ρ := ρ) (getE_rel hg ha) hk
        exact ⟨.bool (!n), by simp [execOp, en, Op.unary], mkNeg_rel (ρ := ρ) dn⟩
      · simp [Tree.den] at h
    · simp [Tree.den] at h
  · -- convert
    rename_i src dst x
    split at h
    · rename_i k0 k a hs hd ha
      split at h
      · rename_i j hj
        obtain rfl := vE_some h
        obtain ⟨n, en, dn, n0, n1⟩ := erel_int (ρ := ρ) (getE_rel hg ha) hj
        exact ⟨.int k (k.wrap n), by simp [execOp, en, convert, run_underlying hs, run_underlying hd, Conv.intToInt], mkCv_rel (ρ := ρ) k dn n0 n1⟩
      · simp [Tree.den] at h
    · simp [Tree.den] at h
  · -- fieldAddr
    rename_i s x f
    split at h
    · rename_i fs n off hu ha
      obtain ⟨q, hq, ex⟩ := getA_rel hg ha
      split at h
      · rename_i fl hf
        split at h
        · rename_i m hs
          refine eff_val (v := .pointer (some ⟨q, off + fl.offset, none⟩)) h ?_ ⟨q, hq, rfl⟩
          simp [execOp, Instr.fieldAt, run_underlying hu, hf, ex, Instr.sureAddr, fieldPlace, run_size hs, addr_add]
        · simp [Tree.den] at h
      · simp [Tree.den] at h
    · simp [Tree.den] at h
  · -- field
    rename_i t x f
    split at h
    · rename_i fs cs hu hp
      obtain ⟨vs, ev, rv⟩ := getP_rel hg hp
      split at h
      · rename_i fl hf
        split at h
        · rename_i p hpp
          obtain ⟨v, hv, hr⟩ := run_part (P := P) (w := w) hpp rv
          exact eff_val (v := v) h (by simp [execOp, Instr.field, run_underlying hu, hf, ev, asAgg, hv]) hr
        · simp [Tree.den] at h
      · simp [Tree.den] at h
    · simp [Tree.den] at h
  · -- indexAddr
    rename_i t x i
    split at h
    · rename_i len el j hu hi
      split at h
      · rename_i n off s ha hs
        obtain ⟨q, hq, ex⟩ := getA_rel hg ha
        obtain ⟨k, m, ei, hm, hr⟩ := atI_den (getE_rel hg hi) h
        refine eff_val (v := .pointer (some ⟨q, off + m * s, none⟩)) hr ?_ ⟨q, hq, rfl⟩
        simp [execOp, Instr.indexAt, run_underlying hu, ex, ei, asIntOf, Instr.sureAddr, hm, run_size hs, addr_add]
      · simp [Tree.den] at h
    · rename_i el j hu hi
      split at h
      · rename_i n off len s ha hs
        obtain ⟨q, cap, hq, ex⟩ := getSl_rel hg ha
        obtain ⟨k, m, ei, hm, hr⟩ := atI_den (getE_rel hg hi) h
        refine eff_val (v := .pointer (some ⟨q, off + m * s, none⟩)) hr ?_ ⟨q, hq, rfl⟩
        simp [execOp, Instr.indexAt, run_underlying hu, ex, ei, asIntOf, hm, run_size hs, addr_add]
      · rename_i s ha hs
        exact indexM_sound hg (t := t) (x := x) rfl hu hs hi h
      · simp [Tree.den] at h
    · simp [Tree.den] at h
  · -- index
    rename_i t x i
    split at h
    · rename_i len el cs j hu hp hi
      obtain ⟨vs, ev, rv⟩ := getP_rel hg hp
      split at h
      · rename_i s hs
        obtain ⟨k, m, ei, hm, hr⟩ := atI_den (getE_rel hg hi) h
        split at hr
        · rename_i p hpp
          obtain ⟨v, hv, hrr⟩ := run_part (P := P) (w := w) hpp rv
          exact eff_val (v := v) hr (by simp [execOp, Instr.index, run_underlying hu, ev, ei, asIntOf, hm, run_size hs, hv]) hrr
        · simp [Tree.den] at hr
      · simp [Tree.den] at h
    · simp [Tree.den] at h
  · -- buildSlice
    rename_i t len parts
    split at h
    · rename_i el ps hu hp
      split at h
      · rename_i n z hs hz
        split at h
        · rename_i hc
          simp only [Bool.and_eq_true] at hc
          have c1 := Nat.le_of_ble_eq_true hc.1
          have c2 : 0 < len := Nat.le_of_ble_eq_true hc.2
          split at h
          · rename_i zs hzs
            split at h
            · rename_i hlz
              have hlz := beq_len hlz
              split at h
              · rename_i cs hcs
                simp [Tree.den] at h
                subst h
                have hzr : CsRel ρ zs z.cells.toList := ofCells_rel hzs
                have hzl := hzr.length
                obtain ⟨ws, hw, hr⟩ := fill_sound (fun i => some (i * (n + 1), n + 1)) ps _ _ _ cs (repC_rel hzr (by omega) (len * (n + 1))) (getPs_sound hg parts.toList ps hp) hcs
                refine ⟨ws, ?_, hr⟩
                have hne : ¬ (len * (n + 1) = 0) := Nat.ne_of_gt (Nat.mul_pos c2 (Nat.succ_pos n))
                have hle : ¬ (len * (n + 1) > 2 ^ 24) := by omega
                have hfill : Instr.fill (fun i => some (i * (n + 1), n + 1)) ((Array.range (len * (n + 1))).map (z.cells[· % z.cells.size]!)) (parts.map fun (i, x) => (i, e x)).toList = some ws.toArray := by
                  rw [← hw]
                  congr 1
                  · apply Array.ext'
                    simp [Array.toList_range]
                  · simp
                simp only [execOp, Instr.buildSlice, Sem.run_bind, run_underlying hu, Result.andThen_ok, run_size hs, Sem.run_ite, if_neg hle, if_neg hne, Sem.run_pure, run_zero hz]
                rw [hfill]
                simp [newRow]
              · simp [Tree.den] at h
            · simp [Tree.den] at h
          · simp [Tree.den] at h
        · simp [Tree.den] at h
      · simp [Tree.den] at h
    · simp [Tree.den] at h
  · -- extract
    rename_i x i
    split at h
    · rename_i xs hx
      obtain ⟨vs, ev, rv⟩ := hg _ _ hx
      split at h
      · rename_i p hp
        obtain ⟨v, hv, hr⟩ := rv.get hp
        exact eff_val (v := v) h (by simp [execOp, Instr.extract, ev, hv]) hr
      · simp [Tree.den] at h
    · simp [Tree.den] at h
  · -- makeFunc
    rename_i f first captured
    split at h
    · rename_i caps hf hc
      have hfirst : first = #[] := by simpa using hf
      exact eff_val (v := .func (.func f) #[] (captured.map e)) h (by simp [execOp, Instr.makeFunc, hfirst]) ⟨captured.toList.map e, getAs_rel hg _ _ hc, by rw [← Array.toList_map]⟩
    · simp [Tree.den] at h
  · -- a builtin
    rename_i c
    obtain ⟨callee, args, argTypes⟩ := c
    simp only at h
    split at h
    · -- min
      unfold minmax at h
      split at h
      · rename_i x l hargs
        split at h
        · rename_i a ha
          split at h
          · rename_i k hk
            split at h
            · rename_i r' hr
              obtain rfl := vE_some h
              obtain ⟨n, en, dn, n0, n1⟩ := erel_int (ρ := ρ) (getE_rel hg ha) hk
              have hcr : CRel ρ (.e a) (.int k n) := by rw [← en]; exact getE_rel hg ha
              obtain ⟨y, hy, hc⟩ := fold_min (P := P) (w := w) hg k l a r' n hcr hk hr
              refine ⟨.int k y, ?_, hc⟩
              have hal : args.toList.map e = .int k n :: l.map e := by rw [hargs]; simp [en]
              simp [execOp, resolve, invoke, builtin, Builtin.min_, hal, hy]
            · simp [Tree.den] at h
          · simp [Tree.den] at h
        · simp [Tree.den] at h
      · simp [Tree.den] at h
    · -- max
      unfold minmax at h
      split at h
      · rename_i x l hargs
        split at h
        · rename_i a ha
          split at h
          · rename_i k hk
            split at h
            · rename_i r' hr
              obtain rfl := vE_some h
              obtain ⟨n, en, dn, n0, n1⟩ := erel_int (ρ := ρ) (getE_rel hg ha) hk
              have hcr : CRel ρ (.e a) (.int k n) := by rw [← en]; exact getE_rel hg ha
              obtain ⟨y, hy, hc⟩ := fold_max (P := P) (w := w) hg k l a r' n hcr hk hr
              refine ⟨.int k y, ?_, hc⟩
              have hal : args.toList.map e = .int k n :: l.map e := by rw [hargs]; simp [en]
              simp [execOp, resolve, invoke, builtin, Builtin.max_, hal, hy]
            · simp [Tree.den] at h
          · simp [Tree.den] at h
        · simp [Tree.den] at h
      · simp [Tree.den] at h
    · -- len
      split at h
      · rename_i t x ht hx
        split at h
        · rename_i n el hu
          split at h
          · rename_i hle
            obtain rfl := vE_some h
            have hn := Nat.le_of_ble_eq_true hle
            have hat : argTypes = #[t] := by cases argTypes; simp at ht; simp [ht]
            have har : args = #[x] := by cases args; simp at hx; simp [hx]
            subst hat har
            refine ⟨.int .i64 n, ?_, rfl, .i .i64, rfl, n, rfl, ?_⟩
            · simp [execOp, resolve, invoke, builtin, Builtin.len_, run_underlying hu, goInt]
            · constructor
              · have : IntKind.i64.min ≤ 0 := by decide
                omega
              · have : (1000000 : Int) ≤ IntKind.i64.max := by decide
                omega
          · simp [Tree.den] at h
        · rename_i el hu
          split at h
          · rename_i q1 q2 n hsl
            split at h
            · rename_i hle
              obtain rfl := vE_some h
              have hn := Nat.le_of_ble_eq_true hle
              have hat : argTypes = #[t] := by cases argTypes; simp at ht; simp [ht]
              have har : args = #[x] := by cases args; simp at hx; simp [hx]
              subst hat har
              obtain ⟨q, cap, _, ex⟩ := getSl_rel hg hsl
              refine ⟨.int .i64 n, ?_, rfl, .i .i64, rfl, n, rfl, ?_⟩
              · simp [execOp, resolve, invoke, builtin, Builtin.len_, run_underlying hu, goInt, ex]
              · constructor
                · have : IntKind.i64.min ≤ 0 := by decide
                  omega
                · have : (1000000 : Int) ≤ IntKind.i64.max := by decide
                  omega
            · simp [Tree.den] at h
          · have hat : argTypes = #[t] := by cases argTypes; simp at ht; simp [ht]
            have har : args = #[x] := by cases args; simp at hx; simp [hx]
            subst hat har
            exact lenM_sound hg rfl hu h
        · simp [Tree.den] at h
      · simp [Tree.den] at h
    · simp [Tree.den] at h
  · simp [Tree.den] at h
end whole
end
end Go.Proofs.YtjgmipklbpghfaaDoor

/- The symbolic evaluator: contracts, calls, and the pieces of the walk. No condition. -/
namespace Go.Proofs.YtjgmipklbpghfaaDoor
open Go.RowKit

def KindsL : List SK → List Value → Prop
  | [], vs => vs = []
  | κ :: κs, vs => ∃ v us, vs = v :: us ∧ inKind κ v ∧ KindsL κs us

/-- A call runs to its end and hands back v. -/
def CallOK (P : Program) (f : FuncId) (args : Array Value) (w : World) (R : Value → World → Prop) : Prop :=
  ((callFunc f args).run P w = .ok (.enter f args) w ∧ Calls P f args w fun e w' => ∃ v, e = .returned v ∧ R v w') ∨ (∃ v, (callFunc f args).run P w = .ok (.value v) w ∧ R v w)
theorem CallOK.mono {P : Program} {f : FuncId} {args : Array Value} {w : World} {R R' : Value → World → Prop} (h : CallOK P f args w R) (k : ∀ v w', R v w' → R' v w') : CallOK P f args w R' := by
  rcases h with ⟨h1, h2⟩ | ⟨v, h1, h2⟩
  · exact .inl ⟨h1, h2.mono fun e w' ⟨v, he, hr⟩ => ⟨v, he, k v w' hr⟩⟩
  · exact .inr ⟨v, h1, k v w h2⟩

/-- What holds of the world, and stays while no old block turns. -/
def Stays (I : World → Prop) : Prop := ∀ w w', I w → Below w.heap.size w w' → I w'

/-- A contract holds, in every world of which I holds. -/
def SumOK (P : Program) (I : World → Prop) (s : Sum) : Prop :=
  ∀ vs, KindsL (kindsL s.args) vs → ∀ w, I w → CallOK P s.f (packL s.args vs).toArray w fun v w' => v = s.res.pack (s.F vs) ∧ KindsL s.res.kinds (s.F vs) ∧ Below w.heap.size w w'

/-- A contract under a condition holds. -/
def CSumOK (P : Program) (I : World → Prop) (s : CSum) : Prop :=
  ∀ vs, KindsL (kindsL s.args) vs → s.pre vs = true → ∀ w, I w → CallOK P s.f (packL s.args vs).toArray w fun v w' => v = s.res.pack (s.F vs) ∧ KindsL s.res.kinds (s.F vs) ∧ Below w.heap.size w w'
/-- Old memory reads as M says, and M's contracts hold. -/
structure MemOK (P : Program) (I : World → Prop) (M : MemS) : Prop where
  cell : ∀ w, I w → ∀ a v, M.cell a = some v → w.cell? a = some v
  sums : ∀ c ∈ M.cs, CSumOK P I c
theorem noMem_ok {P : Program} {I : World → Prop} : MemOK P I noMem := ⟨fun _ _ _ _ h => (by cases h), fun _ h => (by cases h)⟩
theorem findC_spec : ∀ {S : List CSum} {f : FuncId} {c : CSum}, findC S f = some c → c ∈ S ∧ c.f = f
  | [], _, _, h => by simp [findC] at h
  | s :: S, f, c, h => by
    simp only [findC] at h
    split at h
    · rename_i hb
      simp at h
      subst h
      exact ⟨by simp, beq_len hb⟩
    · obtain ⟨h1, h2⟩ := findC_spec h
      exact ⟨List.mem_cons_of_mem _ h1, h2⟩
theorem findS_spec : ∀ {S : List Sum} {f : FuncId} {c : Sum}, findS S f = some c → c ∈ S ∧ c.f = f
  | [], _, _, h => by simp [findS] at h
  | s :: S, f, c, h => by
    simp only [findS] at h
    split at h
    · rename_i hb
      simp at h
      subst h
      exact ⟨by simp, beq_len hb⟩
    · obtain ⟨h1, h2⟩ := findS_spec h
      exact ⟨List.mem_cons_of_mem _ h1, h2⟩

/-! Arguments flattened. -/
theorem denL_append : ∀ (xs ys : List SE), denL (xs ++ ys) = denL xs ++ denL ys
  | [], _ => rfl
  | x :: xs, ys => by simp [denL, denL_append xs ys]
theorem KindsL.length : ∀ {κs : List SK} {vs : List Value}, KindsL κs vs → vs.length = κs.length
  | [], vs, h => by rw [show vs = [] from h]; rfl
  | κ :: κs, vs, h => by obtain ⟨v, us, rfl, _, k⟩ := h; simp [KindsL.length k]
theorem KindsL.append : ∀ {κs κs' : List SK} {vs us : List Value}, KindsL κs vs → KindsL κs' us → KindsL (κs ++ κs') (vs ++ us)
  | [], _, vs, us, h, k => by rw [show vs = [] from h]; exact k
  | κ :: κs, _, vs, us, h, k => by obtain ⟨v, ws, rfl, h1, h2⟩ := h; exact ⟨v, ws ++ us, rfl, h1, KindsL.append h2 k⟩
theorem KindsL.split : ∀ {κs κs' : List SK} {vs : List Value}, KindsL (κs ++ κs') vs → KindsL κs (vs.take κs.length) ∧ KindsL κs' (vs.drop κs.length)
  | [], _, vs, h => ⟨by simp [KindsL], by simpa using h⟩
  | κ :: κs, _, vs, h => by
    obtain ⟨v, ws, rfl, h1, h2⟩ := h
    obtain ⟨k1, k2⟩ := KindsL.split h2
    exact ⟨⟨v, ws.take κs.length, by simp, h1, k1⟩, by simpa using k2⟩

section
variable {ρ : Rho}
theorem flatC_spec : ∀ {κs : List SK} {cs : List SC} {xs : List SE} {vs : List Value}, flatC κs cs = some xs → CsRel ρ cs vs → vs = denL xs ∧ KindsL κs (denL xs)
  | [], [], xs, vs, h, hr => by
    simp [flatC] at h
    subst h
    cases vs with
    | nil => exact ⟨rfl, rfl⟩
    | cons v vs => exact hr.elim
  | [], _ :: _, _, _, h, _ => by simp [flatC] at h
  | κ :: κs, [], _, _, h, _ => by simp [flatC] at h
  | κ :: κs, c :: cs, xs, vs, h, hr => by
    cases c with
    | e x =>
      simp only [flatC] at h
      split at h
      · rename_i κ' r hk hf
        split at h
        · rename_i he
          obtain rfl := eqSK_eq he
          simp at h
          subst h
          cases vs with
          | nil => exact hr.elim
          | cons v vs =>
            obtain ⟨⟨hd, κ2, hk2, hi⟩, hr⟩ := hr
            obtain ⟨e2, k2⟩ := flatC_spec hf hr
            rw [hk] at hk2
            cases hk2
            subst hd
            exact ⟨by simp [denL, e2], _, _, rfl, hi, k2⟩
        · simp at h
      · simp at h
    | p b off => simp [flatC] at h
    | fn f caps => simp [flatC] at h
    | sl b off len cap => simp [flatC] at h
theorem flatP_spec {p : PS} {x : SP} {xs : List SE} {v : Value} (h : flatP p x = some xs) (hr : PRel ρ x v) (rest : List Value) : v = p.pack (denL xs ++ rest) ∧ KindsL p.kinds (denL xs) := by
  cases p with
  | c κ =>
    cases x with
    | c x =>
      obtain ⟨e, k⟩ := flatC_spec (ρ := ρ) (vs := [v]) h ⟨hr, trivial⟩
      refine ⟨?_, k⟩
      rw [← e]
      rfl
    | agg cs => simp [flatP] at h
  | agg κs =>
    cases x with
    | c x => simp [flatP] at h
    | agg cs =>
      obtain ⟨vs, rfl, k⟩ := hr
      obtain ⟨e, k⟩ := flatC_spec (ρ := ρ) h k
      refine ⟨?_, k⟩
      simp only [PS.pack]
      rw [List.take_left' k.length, e]
theorem flatL_spec : ∀ {ps : List PS} {svs : List SV} {xs : List SE} {vs : List Value}, flatL ps svs = some xs → VsRel ρ svs vs → vs = packL ps (denL xs) ∧ KindsL (kindsL ps) (denL xs)
  | [], [], xs, vs, h, hr => by
    simp [flatL] at h
    subst h
    cases vs with
    | nil => exact ⟨rfl, rfl⟩
    | cons v vs => exact hr.elim
  | [], _ :: _, _, _, h, _ => by simp [flatL] at h
  | _ :: _, [], _, _, h, _ => by simp [flatL] at h
  | p :: ps, s :: svs, xs, vs, h, hr => by
    cases s with
    | tup ys => simp [flatL] at h
    | p x =>
      simp only [flatL] at h
      split at h
      · rename_i a b ha hb
        simp at h
        subst h
        cases vs with
        | nil => exact hr.elim
        | cons v vs =>
          obtain ⟨h1, h2⟩ := hr
          obtain ⟨e2, k2⟩ := flatL_spec hb h2
          obtain ⟨e1, k1⟩ := flatP_spec (ρ := ρ) ha h1 (denL b)
          rw [denL_append]
          refine ⟨?_, k1.append k2⟩
          simp only [packL]
          rw [← e1, List.drop_left' k1.length, ← e2]
      · simp at h

theorem app_rel {f : Nat} {F : List Value → List Value} {xs : List SE} {j : Nat} {κ : SK} {rs rest : List Value} {v : Value} (h : F (denL xs) = rs) (hr : rs.drop j = v :: rest) (hk : inKind κ v) : CRel ρ (.e (.app f F j κ xs)) v := by
  refine ⟨?_, κ, rfl, hk⟩
  simp only [SE.den, h]
  rw [show rs.getD j undef = v from ?_, hk.norm]
  have : rs[j]? = some v := by
    have := congrArg (fun l => l[0]?) hr
    simpa using this
  simp [List.getD, this]
theorem apps_rel {f : Nat} {F : List Value → List Value} {xs : List SE} {rs : List Value} (h : F (denL xs) = rs) : ∀ {κs : List SK} {j : Nat} {vs rest : List Value}, rs.drop j = vs ++ rest → KindsL κs vs → CsRel ρ (appsS f F xs j κs) vs
  | [], j, vs, rest, _, hk => by rw [show vs = [] from hk]; trivial
  | κ :: κs, j, vs, rest, hd, hk => by
    obtain ⟨v, us, rfl, h1, h2⟩ := hk
    refine ⟨app_rel h (by simpa using hd) h1, apps_rel h (j := j + 1) (rest := rest) ?_ h2⟩
    have : rs.drop (j + 1) = (rs.drop j).drop 1 := by simp
    rw [this, hd]
    simp
theorem mkP_rel {f : Nat} {F : List Value → List Value} {xs : List SE} {rs : List Value} (h : F (denL xs) = rs) {p : PS} {j : Nat} {vs rest : List Value} (hd : rs.drop j = vs ++ rest) (hk : KindsL p.kinds vs) : PRel ρ (mkP f F xs j p) (p.pack (vs ++ rest)) := by
  cases p with
  | c κ =>
    obtain ⟨v, us, rfl, h1, h2⟩ := hk
    have : us = [] := h2
    subst this
    have e : (PS.c κ).pack ([v] ++ rest) = v := rfl
    rw [e]
    exact app_rel (ρ := ρ) (rest := rest) h (by simpa using hd) h1
  | agg κs =>
    refine ⟨vs, ?_, apps_rel h hd hk⟩
    simp only [PS.pack]
    rw [List.take_left' (show vs.length = κs.length from hk.length)]
theorem mkPs_rel {f : Nat} {F : List Value → List Value} {xs : List SE} {rs : List Value} (h : F (denL xs) = rs) : ∀ {ps : List PS} {j : Nat} {vs : List Value}, rs.drop j = vs → KindsL (kindsL ps) vs → PsRel ρ (mkPs f F xs j ps) (packL ps vs)
  | [], j, vs, _, _ => trivial
  | p :: ps, j, vs, hd, hk => by
    obtain ⟨k1, k2⟩ := KindsL.split hk
    have e : vs = vs.take p.kinds.length ++ vs.drop p.kinds.length := (List.take_append_drop _ _).symm
    refine ⟨?_, mkPs_rel h (j := j + p.kinds.length) ?_ k2⟩
    · have := mkP_rel (ρ := ρ) (f := f) h (p := p) (j := j) (vs := vs.take p.kinds.length) (rest := vs.drop p.kinds.length) (by rw [hd]; exact e) k1
      rwa [← e] at this
    · rw [← hd, List.drop_drop]
theorem mkR_rel {f : Nat} {F : List Value → List Value} {xs : List SE} {rs : List Value} (h : F (denL xs) = rs) {r : RS} (hk : KindsL r.kinds rs) : VRel ρ (mkR f F xs r) (r.pack rs) := by
  cases r with
  | one p =>
    have := mkP_rel (ρ := ρ) (f := f) h (p := p) (j := 0) (vs := rs) (rest := []) (by simp) hk
    rw [List.append_nil] at this
    exact this
  | tup ps => exact ⟨_, rfl, mkPs_rel h (by simp) hk⟩
end

/-! What is kept. -/
theorem HRel.below {B : Nat} {ρ : Rho} {H : List (Nat × Blk)} {w w' : World} (h : HRel B ρ H w) (hb : Below w.heap.size w w') : HRel B ρ H w' :=
  ⟨fun n x hx => Nat.lt_of_lt_of_le (h.lt n x hx) hb.size, h.inj, fun n b x hn hx => by
    obtain ⟨h1, h2, h3, h4⟩ := h.blk n b x hn hx
    exact ⟨h1, h2, by rw [hb.block x (h.lt n x hx)]; exact h3, h4⟩⟩

structure StRel (B : Nat) (w0 : World) (ρ : Rho) (s : St) (a : Act) (w : World) : Prop where
  tmps : VsRel ρ s.T a.tmps.toList
  mem : HRel B ρ s.H w
  below : Below B w0 w
  fresh : ∀ n, s.nx ≤ n → ρ n = none
  names : ∀ n b, find s.H n = some b → n < s.nx
  defers : a.defers = []

theorem getD_of {xs : Array Value} {t : Nat} {v : Value} (h : xs[t]? = some v) : xs.getD t undef = v := by
  obtain ⟨hl, rfl⟩ := Array.getElem?_eq_some_iff.1 h
  simp [Array.getD, hl]

theorem lookT_rel {ρ : Rho} {T : List SV} {a : Act} (h : VsRel ρ T a.tmps.toList) : ∀ x sv, lookT T x = some sv → VRel ρ sv (a.eval x) := by
  intro x sv hx
  cases x with
  | tmp t =>
    simp only [lookT] at hx
    obtain ⟨v, hv, hr⟩ := h.get hx
    have e : a.eval (.tmp t) = v := getD_of (by simpa using hv)
    rw [e]
    exact hr
  | const v => exact ofConst_rel hx
  | global g => simp [lookT] at hx
  | func f => simp [lookT] at hx; subst hx; exact ⟨[], trivial, rfl⟩

theorem put_tmps {ρ : Rho} {T : List SV} {a : Act} (h : VsRel ρ T a.tmps.toList) {sv : SV} {v : Value} (hv : VRel ρ sv v) (dst : Option Tmp) : VsRel ρ (putT T dst sv) (a.put dst v).tmps.toList := by
  cases dst with
  | none => exact h
  | some d => simpa [putT, Act.put] using h.set d hv
theorem put_defers {a : Act} (dst : Option Tmp) (v : Value) (h : a.defers = []) : (a.put dst v).defers = [] := by cases dst <;> simpa [Act.put] using h

/-- A new block under a new name. -/
def newRho (ρ : Rho) (n x : Nat) : Rho := fun m => if m = n then some x else ρ m
theorem newRho_ext {ρ : Rho} {n x : Nat} (h : ρ n = none) : Ext ρ (newRho ρ n x) := fun m y hm => by
  simp only [newRho]
  split
  · rename_i e; subst e; rw [h] at hm; cases hm
  · exact hm

theorem HRel.alloc {B : Nat} {ρ : Rho} {H : List (Nat × Blk)} {w : World} (h : HRel B ρ H w) {n : Nat} (hn : ρ n = none) (hB : B ≤ w.heap.size) {cs : List SC} {vs : List Value} (t : TypeId) (hc : CsRel ρ cs vs) :
    HRel B (newRho ρ n w.heap.size) ((n, ⟨cs, t, true⟩) :: H) (w.alloc (.cells vs.toArray t)) := by
  have hx := newRho_ext (x := w.heap.size) hn
  refine ⟨fun m x hm => ?_, fun m k x hm hk => ?_, fun m b x hb hm => ?_⟩
  · simp only [newRho] at hm
    simp only [World.size_alloc]
    split at hm
    · simp at hm; omega
    · have := h.lt m x hm; omega
  · simp only [newRho] at hm hk
    split at hm <;> split at hk
    · rename_i e1 e2; rw [e1, e2]
    · simp at hm; subst hm; have := h.lt k _ hk; omega
    · simp at hk; subst hk; have := h.lt m _ hm; omega
    · exact h.inj m k x hm hk
  · simp only [find] at hb
    simp only [newRho] at hm
    split at hb
    · rename_i e
      have e := beq_len e
      subst e
      simp at hb hm
      subst hb hm
      refine ⟨fun _ => hB, vs, ?_, hc.mono hx⟩
      show (w.heap.push _)[w.heap.size]? = _
      simp
    · rename_i e
      rw [if_neg (fun e2 => by subst e2; simp at e)] at hm
      obtain ⟨h1, h2, h3, h4⟩ := h.blk m b x hb hm
      refine ⟨h1, h2, ?_, h4.mono hx⟩
      have hl := h.lt m x hm
      rw [Below.heap_alloc _ _ _ hl]
      exact h3

theorem wantS_spec {ρ : Rho} {T : List SV} {a : Act} {ops : Array Oper} {o : Oper} {b : Bool} (h : VsRel ρ T a.tmps.toList) (hw : wantS ops T o = some b) : Region.wanted o (yielded ops a.tmps) = b := by
  unfold wantS at hw
  unfold Region.wanted
  split at hw
  · rename_i hg; simp at hw; simp [hg, hw]
  · rename_i j want hg
    simp only [hg]
    split at hw
    · simp at hw
    · rename_i d hd
      unfold yielded
      simp only [hd, Option.bind_some]
      split at hw
      · rename_i c hT
        obtain ⟨v, hv, hr⟩ := h.get hT
        have e : v = .bool c := hr.1
        have : a.tmps[d]? = some (.bool c) := by rw [← e]; simpa using hv
        simp at hw
        simp [this, ← hw]
      · rename_i hT
        obtain ⟨v, hv, vs, e, hr⟩ := h.get hT
        have : a.tmps[d]? = some v := by simpa using hv
        simp at hw
        simp [this, e, ← hw]
      · simp at hw

theorem part_spec {ρ : Rho} {u : Bool} {v v' : SV} {x : Value} (h : (Go.Proofs.YtjgmipklbpghfaaDoor.part u v).den = some v') (hr : VRel ρ v x) : VRel ρ v' x := by
  unfold Go.Proofs.YtjgmipklbpghfaaDoor.part at h
  split at h
  · split at h
    · simp [Tree.den] at h; subst h; exact hr
    · split at h
      · rename_i hk
        obtain ⟨b, rfl, db⟩ := erel_bool (ρ := ρ) hr hk
        simp only [Tree.den, db, tru] at h
        cases b with
        | true => simp at h; subst h; exact ⟨rfl, .b, rfl, _, rfl⟩
        | false => simp at h; subst h; exact ⟨rfl, .b, rfl, _, rfl⟩
      · simp [Tree.den] at h; subst h; exact hr
    · simp [Tree.den] at h; subst h; exact hr
  · simp [Tree.den] at h; subst h; exact hr

/-! Results. -/
def resVar (tmps : Array Value) : ResultVar → Sem Value
  | .tmp t => pure (tmps.getD t undef)
  | .cell a t => do loadVar t (← asAddr (tmps.getD a undef))
theorem results_eq (fn : Func) (tmps : Array Value) : results fn tmps = (fn.results.mapM (resVar tmps) >>= fun vs => pure (if h : vs.size = 1 then vs[0] else .tuple vs)) := rfl
theorem run_results {P : Program} {B : Nat} {ρ : Rho} {s : St} {w : World} {tmps : Array Value} (hT : VsRel ρ s.T tmps.toList) (hH : HRel B ρ s.H w) : ∀ (l : List ResultVar) (xs : List SP), resS P s l = some xs →
    ∃ vs : List Value, (l.mapM (resVar tmps)).run P w = .ok vs w ∧ PsRel ρ xs vs
  | [], xs, h => by simp [resS] at h; subst h; exact ⟨[], by simp, trivial⟩
  | .tmp t :: l, xs, h => by
    simp only [resS] at h
    split at h
    · rename_i v r hv hr
      simp at h
      subst h
      obtain ⟨vs, h1, h2⟩ := run_results hT hH l r hr
      obtain ⟨u, hu, hk⟩ := hT.get hv
      have e : tmps.getD t undef = u := getD_of (by simpa using hu)
      refine ⟨u :: vs, ?_, hk, h2⟩
      simp only [List.mapM_cons, Sem.run_bind, resVar, Sem.run_pure, Result.andThen_ok, e]
      rw [h1]
      rfl
    · simp at h
  | .cell a t :: l, xs, h => by
    simp only [resS] at h
    split at h
    · rename_i n off r hv hr
      split at h
      · rename_i b hb
        split at h
        · rename_i v hp
          simp at h
          subst h
          obtain ⟨vs, h1, h2⟩ := run_results hT hH l r hr
          obtain ⟨u, hu, x, hx, hux⟩ := hT.get hv
          have e : tmps.getD a undef = .pointer (some ⟨x, off, none⟩) := by rw [getD_of (by simpa using hu), hux]
          obtain ⟨z, hz, hk⟩ := run_loadVar (P := P) hH hb hx hp
          refine ⟨z :: vs, ?_, hk, h2⟩
          have ea : (resVar tmps (.cell a t)).run P w = .ok z w := by simp only [resVar, Sem.run_bind, e, asAddr, Sem.run_pure, Result.andThen_ok, hz]
          simp only [List.mapM_cons, Sem.run_bind, ea, Result.andThen_ok, h1, Sem.run_pure]
        · simp at h
      · simp at h
    · simp at h
theorem run_resV {P : Program} {B : Nat} {ρ : Rho} {s : St} {w : World} {fn : Func} {tmps : Array Value} {xs : List SP} (hT : VsRel ρ s.T tmps.toList) (hH : HRel B ρ s.H w) (h : resS P s fn.results.toList = some xs) :
    ∃ v, (results fn tmps).run P w = .ok v w ∧ VRel ρ (resV xs) v := by
  obtain ⟨vs, h1, h2⟩ := run_results hT hH _ _ h
  rw [results_eq, Array.mapM_eq_mapM_toList]
  simp only [Sem.run_bind, Sem.run_map, h1, Result.andThen_ok, Sem.run_pure]
  cases xs with
  | nil =>
    cases vs with
    | nil => exact ⟨.tuple #[], by simp, [], rfl, trivial⟩
    | cons v vs => exact h2.elim
  | cons x xs =>
    cases vs with
    | nil => exact h2.elim
    | cons v vs =>
      cases xs with
      | nil =>
        cases vs with
        | nil => exact ⟨v, by simp, h2.1⟩
        | cons u us => exact h2.2.elim
      | cons y ys =>
        cases vs with
        | nil => exact h2.2.elim
        | cons u us => exact ⟨.tuple (v :: u :: us).toArray, by simp, v :: u :: us, rfl, h2⟩
end Go.Proofs.YtjgmipklbpghfaaDoor

/- The symbolic evaluator: one operation inside the walk, calls included. No condition. -/
namespace Go.Proofs.YtjgmipklbpghfaaDoor
open Go.RowKit

def Xt.to : Xt → Exit
  | .normal => .normal
  | .exit id => .exit id
  | .ret => .ret

/-- What the evaluator of smaller fuel is good for. -/
def RecOK (P : Program) (I : World → Prop) (rec : Rec) : Prop :=
  ∀ c s x s', (rec c s).den = some (x, s') → ∀ (B : Nat) (w0 : World) (ρ : Rho) (a : Act) (w : World) (Q : Exit → Act → World → Prop), B ≤ w0.heap.size → (∀ w, Below B w0 w → I w) → StRel B w0 ρ s a w →
    (∀ ρ' a' w', Ext ρ ρ' → StRel B w0 ρ' s' a' w' → Q x.to a' w') → c.wp P Q a w

section
variable {P : Program} {I : World → Prop} {rec : Rec} (hrec : RecOK P I rec) {B : Nat} {w0 : World} (hB : B ≤ w0.heap.size) (hI : ∀ w, Below B w0 w → I w)
include hrec hB hI

theorem callF_sound {f : FuncId} {args : List SV} {H H' : List (Nat × Blk)} {nx nx' : Nat} {sv : SV} (h : (callF rec P f args H nx).den = some (sv, H', nx')) {ρ : Rho} {vs : List Value} {w : World} (hv : VsRel ρ args vs) (hH : HRel B ρ H w) (hb : Below B w0 w)
    (hf : ∀ n, nx ≤ n → ρ n = none) (hnm : ∀ n b, find H n = some b → n < nx) : CallOK P f vs.toArray w fun v w' => ∃ ρ', Ext ρ ρ' ∧ VRel ρ' sv v ∧ HRel B ρ' H' w' ∧ Below B w0 w' ∧ (∀ n, nx' ≤ n → ρ' n = none) ∧ ∀ n b, find H' n = some b → n < nx' := by
  unfold callF at h
  split at h
  · simp [Tree.den] at h
  · rename_i fn hfn
    split at h
    · simp [Tree.den] at h
    · rename_i c hc
      split at h
      · simp [Tree.den] at h
      · rename_i hn
        obtain ⟨⟨x, s'⟩, h1, h2⟩ := den_bind_some h
        refine .inl ⟨by simp only [callFunc, Sem.run_bind, run_program, Result.andThen_ok, hfn, if_neg hn, hc, Option.isNone_some, Bool.false_eq_true, if_false, Sem.run_pure], ?_⟩
        refine calls_of_wp hfn hc ?_
        refine hrec c _ x s' h1 B w0 ρ _ w _ hB hI ⟨?_, hH, hb, hf, hnm, rfl⟩ ?_
        · have hl := hv.length
          simp only [Array.toList_append, Array.toList_replicate, List.size_toArray]
          rw [hl]
          exact hv.append (VsRel.undefs _)
        · intro ρ' a' w' hx hs
          have fin : ∀ xs, resS P s' fn.results.toList = some xs → (Tree.ret (resV xs, s'.H, s'.nx)).den = some (sv, H', nx') →
              a'.defers = [] ∧ ∃ v, (results fn a'.tmps).run P w' = .ok v w' ∧ ∃ v', Ending.returned v = .returned v' ∧ ∃ ρ', Ext ρ ρ' ∧ VRel ρ' sv v' ∧ HRel B ρ' H' w' ∧ Below B w0 w' ∧ (∀ n, nx' ≤ n → ρ' n = none) ∧ ∀ n b, find H' n = some b → n < nx' := by
            intro xs hxs hd
            simp [Tree.den] at hd
            obtain ⟨rfl, rfl, rfl⟩ := hd
            obtain ⟨v, hr, hk⟩ := run_resV (P := P) (fn := fn) hs.tmps hs.mem hxs
            exact ⟨hs.defers, v, hr, v, rfl, ρ', hx, hk, hs.mem, hs.below, hs.fresh, hs.names⟩
          cases x with
          | normal =>
            simp only at h2
            split at h2
            · rename_i xs hxs; exact fin xs hxs h2
            · simp [Tree.den] at h2
          | exit id => simp [Tree.den] at h2
          | ret =>
            simp only at h2
            split at h2
            · rename_i xs hxs; exact fin xs hxs h2
            · simp [Tree.den] at h2

variable {M : MemS} (hM : MemOK P I M) {S : List Sum} (hS : ∀ c ∈ S, SumOK P I c)
include hM hS

theorem callS_sound {f : FuncId} {args : List SV} {s : St} {H' : List (Nat × Blk)} {nx' : Nat} {sv : SV} (h : (callS M rec P S s f args).den = some (sv, H', nx')) {ρ : Rho} {vs : List Value} {w : World} (hv : VsRel ρ args vs) (hH : HRel B ρ s.H w) (hb : Below B w0 w)
    (hf : ∀ n, s.nx ≤ n → ρ n = none) (hnm : ∀ n b, find s.H n = some b → n < s.nx) : CallOK P f vs.toArray w fun v w' => ∃ ρ', Ext ρ ρ' ∧ VRel ρ' sv v ∧ HRel B ρ' H' w' ∧ Below B w0 w' ∧ (∀ n, nx' ≤ n → ρ' n = none) ∧ ∀ n b, find H' n = some b → n < nx' := by
  unfold callS at h
  split at h
  · rename_i c hc
    obtain ⟨hmem, rfl⟩ := findS_spec hc
    split at h
    · rename_i xs hxs
      simp [Tree.den] at h
      obtain ⟨rfl, rfl, rfl⟩ := h
      obtain ⟨e, hk⟩ := flatL_spec hxs hv
      rw [e]
      refine (hS c hmem (denL xs) hk w (hI w hb)).mono fun v w' ⟨hv', hk', hb'⟩ => ?_
      refine ⟨ρ, Ext.refl ρ, ?_, hH.below hb', hb.trans (hb'.mono (Nat.le_trans hB hb.size)), hf, hnm⟩
      rw [hv']
      exact mkR_rel rfl hk'
    · simp [Tree.den] at h
  · split at h
    · rename_i c hc
      obtain ⟨hmem, rfl⟩ := findC_spec hc
      split at h
      · rename_i xs hxs
        obtain ⟨h1, h2⟩ := guard_den h
        simp [Tree.den] at h2
        obtain ⟨rfl, rfl, rfl⟩ := h2
        obtain ⟨e, hk⟩ := flatL_spec hxs hv
        rw [e]
        refine (hM.sums c hmem (denL xs) hk h1 w (hI w hb)).mono fun v w' ⟨hv', hk', hb'⟩ => ?_
        refine ⟨ρ, Ext.refl ρ, ?_, hH.below hb', hb.trans (hb'.mono (Nat.le_trans hB hb.size)), hf, hnm⟩
        rw [hv']
        exact mkR_rel rfl hk'
      · simp [Tree.den] at h
    · exact callF_sound hrec hB hI h hv hH hb hf hnm

omit hrec hB hI hM hS in
theorem CallOK.upon {f : FuncId} {args : Array Value} {w : World} {R : Value → World → Prop} {o : Oper} {a : Act} {K : Act → World → Prop} {Q : Exit → Act → World → Prop} (h : CallOK P f args w R)
    (hk : ∀ v w', R v w' → K (a.put o.dst v) w') : o.upon P a K Q ((callFunc f args).run P w) := by
  rcases h with ⟨h1, h2⟩ | ⟨v, h1, h2⟩
  · rw [h1]
    exact h2.mono fun e w' ⟨v, he, hr⟩ => by subst he; exact hk v w' hr
  · rw [h1]
    exact hk v w h2

/-- One operation. -/
theorem opS_sound {u : Bool} {o : Oper} {s s' : St} (h : (opS M rec P S u o s).den = some s') {ρ : Rho} {a : Act} {w : World} (hs : StRel B w0 ρ s a w) {K : Act → World → Prop} {Q : Exit → Act → World → Prop}
    (hK : ∀ ρ' a' w', Ext ρ ρ' → StRel B w0 ρ' s' a' w' → K a' w') : o.wp P a w K Q := by
  have hg := lookT_rel hs.tmps
  unfold opS at h
  split at h
  · rename_i f args ats hop
    split at h
    · rename_i f' caps vs hf hvs
      obtain ⟨⟨sv, H', nx'⟩, h1, h2⟩ := den_bind_some h
      obtain ⟨v', h3, h4⟩ := den_bind_some h2
      simp [Tree.den] at h4
      subst h4
      obtain ⟨cs, hcaps, ef⟩ := hg _ _ hf
      have hvr := getSs_rel (ρ := ρ) (e := a.eval) hg _ _ hvs
      have hcr : VsRel ρ (capsS caps) cs := by
        clear h1 h hf ef
        induction caps generalizing cs with
        | nil => cases cs with
          | nil => trivial
          | cons c cs => exact hcaps.elim
        | cons c caps ih => cases cs with
          | nil => exact hcaps.elim
          | cons d cs => exact ⟨hcaps.1, ih cs hcaps.2⟩
      have hc := callS_sound hrec hB hI hM hS h1 (hvr.append hcr) hs.mem hs.below hs.fresh hs.names
      have hx : (execOp a.eval o).run P w = (callFunc f' ((args.toList.map a.eval) ++ cs).toArray).run P w := by
        have e : ((args.toList.map a.eval) ++ cs).toArray = args.map a.eval ++ cs.toArray := by apply Array.ext'; simp
        rw [e]
        simp [execOp, hop, resolve, ef, Deferred.ofValue, invoke]
      unfold Oper.wp
      rw [hx]
      refine hc.upon fun v w' ⟨ρ', hx', hv, hH', hb', hf', hn'⟩ => ?_
      exact hK ρ' _ w' hx' ⟨put_tmps (VsRel.mono hx' hs.tmps) (part_spec h3 hv) o.dst, hH', hb', hf', hn', put_defers _ _ hs.defers⟩
    · simp [Tree.den] at h
  · obtain ⟨r, h1, h2⟩ := den_bind_some h
    have he := pure_sound (P := P) (w := w) (M := M) (hM.cell w (hI w hs.below)) hg hs.mem h1
    have hBw : B ≤ w.heap.size := Nat.le_trans hB hs.below.size
    unfold Oper.wp
    cases r with
    | val v =>
      obtain ⟨x, hr, hv⟩ := he
      rw [hr]
      simp only [fin] at h2
      obtain ⟨v', h3, h4⟩ := den_bind_some h2
      simp [Tree.den] at h4
      subst h4
      exact hK ρ _ w (Ext.refl ρ) ⟨put_tmps hs.tmps (part_spec h3 hv) o.dst, hs.mem, hs.below, hs.fresh, hs.names, put_defers _ _ hs.defers⟩
    | blk cs t =>
      obtain ⟨vs, hr, hv⟩ := he
      rw [hr]
      simp [fin, Tree.den] at h2
      subst h2
      have hn := hs.fresh s.nx (Nat.le_refl _)
      have hx := newRho_ext (x := w.heap.size) hn
      refine hK _ _ _ hx ⟨put_tmps (sv := .p (.c (.p s.nx 0))) (VsRel.mono hx hs.tmps) ⟨w.heap.size, by simp [newRho], rfl⟩ o.dst, hs.mem.alloc hn hBw t hv, hs.below.alloc hBw _, fun n hn' => ?_, fun n b hf => ?_, put_defers _ _ hs.defers⟩
      · simp only [newRho]
        rw [if_neg (by simp at hn'; omega)]
        exact hs.fresh n (by simp at hn'; omega)
      · simp only [find] at hf
        split at hf
        · rename_i e; have := beq_len e; simp; omega
        · have := hs.names n b hf; simp; omega
    | sl cs t len =>
      obtain ⟨vs, hr, hv⟩ := he
      rw [hr]
      simp [fin, Tree.den] at h2
      subst h2
      have hn := hs.fresh s.nx (Nat.le_refl _)
      have hx := newRho_ext (x := w.heap.size) hn
      refine hK _ _ _ hx ⟨put_tmps (sv := .p (.c (.sl s.nx 0 len len))) (VsRel.mono hx hs.tmps) ⟨w.heap.size, by simp [newRho], rfl⟩ o.dst, hs.mem.alloc hn hBw t hv, hs.below.alloc hBw _, fun n hn' => ?_, fun n b hf => ?_, put_defers _ _ hs.defers⟩
      · simp only [newRho]
        rw [if_neg (by simp at hn'; omega)]
        exact hs.fresh n (by simp at hn'; omega)
      · simp only [find] at hf
        split at hf
        · rename_i e; have := beq_len e; simp; omega
        · have := hs.names n b hf; simp; omega
    | st n cs off new =>
      obtain ⟨w', hr, hH', hb', _⟩ := he
      rw [hr]
      simp [fin, Tree.den] at h2
      subst h2
      refine hK ρ _ w' (Ext.refl ρ) ⟨put_tmps hs.tmps undef_rel o.dst, hH', hs.below.trans hb', hs.fresh, fun m b hf => ?_, put_defers _ _ hs.defers⟩
      rcases find_upd s.H n m _ b hf with ⟨rfl, b0, h0, _⟩ | ⟨_, h0⟩
      · exact hs.names _ b0 h0
      · exact hs.names m b h0

theorem evOps_sound {ops : Array Oper} : ∀ (l : List Oper) (i : Nat) {s s' : St}, (evOps M rec P S ops i l s).den = some s' → ∀ {ρ : Rho} {a : Act} {w : World}, StRel B w0 ρ s a w → ∀ {Q : Exit → Act → World → Prop},
    (∀ ρ' a' w', Ext ρ ρ' → StRel B w0 ρ' s' a' w' → Q .normal a' w') → wpList P ops Q l a w
  | [], i, s, s', h, ρ, a, w, hs, Q, hQ => by
    simp [evOps, Tree.den] at h
    subst h
    exact hQ ρ a w (Ext.refl ρ) hs
  | o :: l, i, s, s', h, ρ, a, w, hs, Q, hQ => by
    simp only [evOps] at h
    split at h
    · simp [Tree.den] at h
    · rename_i hw
      have hw := wantS_spec hs.tmps hw
      unfold wpList
      rw [hw]
      exact evOps_sound l (i + 1) h ⟨put_tmps hs.tmps undef_rel o.dst, hs.mem, hs.below, hs.fresh, hs.names, put_defers _ _ hs.defers⟩ hQ
    · rename_i hw
      have hw := wantS_spec hs.tmps hw
      obtain ⟨s1, h1, h2⟩ := den_bind_some h
      unfold wpList
      rw [hw]
      simp only [if_true]
      exact .inl (opS_sound hrec hB hI hM hS h1 hs fun ρ' a' w' hx hs' => evOps_sound l (i + 1) h2 hs' fun ρ2 a2 w2 hx2 hs2 => hQ ρ2 a2 w2 (hx.trans hx2) hs2)
end
end Go.Proofs.YtjgmipklbpghfaaDoor
