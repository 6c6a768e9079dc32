/- The symbolic evaluator: what its values and its memory stand for, and small lemmas. No condition. -/
import Derived.Test.YtiooegkbkahppaaDoorEv1
namespace Go.Proofs.YtiooegkbkahppaaDoor
open Go.RowKit

def inKind : SK → Value → Prop
  | .i k, v => ∃ n, v = .int k n ∧ k.min ≤ n ∧ n ≤ k.max
  | .b, v => ∃ t, v = .bool t
  | .s, v => ∃ t, v = .string t
  | .o, v => v.oneCell' = true

theorem inKind.norm {κ : SK} {v : Value} (h : inKind κ v) : norm κ v = v := by
  cases κ with
  | i k => obtain ⟨n, rfl, _⟩ := h; rfl
  | b => obtain ⟨t, rfl⟩ := h; rfl
  | s => obtain ⟨t, rfl⟩ := h; rfl
  | o => rfl
theorem inKind.one {κ : SK} {v : Value} (h : inKind κ v) : v.oneCell' = true := by
  cases κ with
  | i k => obtain ⟨n, rfl, _⟩ := h; rfl
  | b => obtain ⟨n, rfl⟩ := h; rfl
  | s => obtain ⟨n, rfl⟩ := h; rfl
  | o => exact h

abbrev Rho := Nat → Option Nat
def Ext (ρ ρ' : Rho) : Prop := ∀ n x, ρ n = some x → ρ' n = some x
theorem Ext.refl (ρ : Rho) : Ext ρ ρ := fun _ _ h => h
theorem Ext.trans {a b c : Rho} (h : Ext a b) (k : Ext b c) : Ext a c := fun n x e => k n x (h n x e)

def CapsRel (ρ : Rho) : List (Nat × Nat) → List Value → Prop
  | [], [] => True
  | c :: cs, v :: vs => (∃ n, ρ c.1 = some n ∧ v = .pointer (some ⟨n, c.2, none⟩)) ∧ CapsRel ρ cs vs
  | _, _ => False

def CRel (ρ : Rho) : SC → Value → Prop
  | .e x, v => v = x.den ∧ ∃ κ, x.kind = some κ ∧ inKind κ v
  | .p b off, v => ∃ n, ρ b = some n ∧ v = .pointer (some ⟨n, off, none⟩)
  | .fn f caps, v => ∃ vs : List Value, CapsRel ρ caps vs ∧ v = .func (.func f) #[] vs.toArray
  | .sl b off len cap, v => ∃ n, ρ b = some n ∧ v = .slice (some ⟨n, off, none⟩) len cap

def CsRel (ρ : Rho) : List SC → List Value → Prop
  | [], [] => True
  | c :: cs, v :: vs => CRel ρ c v ∧ CsRel ρ cs vs
  | _, _ => False

def PRel (ρ : Rho) : SP → Value → Prop
  | .c x, v => CRel ρ x v
  | .agg cs, v => ∃ vs : List Value, v = .agg vs.toArray ∧ CsRel ρ cs vs

def PsRel (ρ : Rho) : List SP → List Value → Prop
  | [], [] => True
  | c :: cs, v :: vs => PRel ρ c v ∧ PsRel ρ cs vs
  | _, _ => False

def VRel (ρ : Rho) : SV → Value → Prop
  | .p x, v => PRel ρ x v
  | .tup xs, v => ∃ vs : List Value, v = .tuple vs.toArray ∧ PsRel ρ xs vs

def VsRel (ρ : Rho) : List SV → List Value → Prop
  | [], [] => True
  | c :: cs, v :: vs => VRel ρ c v ∧ VsRel ρ cs vs
  | _, _ => False

section
variable {ρ ρ' : Rho}
theorem CapsRel.mono (hx : Ext ρ ρ') : ∀ {cs : List (Nat × Nat)} {vs : List Value}, CapsRel ρ cs vs → CapsRel ρ' cs vs
  | [], [], _ => trivial
  | _ :: _, _ :: _, ⟨⟨n, a, b⟩, k⟩ => ⟨⟨n, hx _ _ a, b⟩, CapsRel.mono hx k⟩
  | [], _ :: _, h => h.elim
  | _ :: _, [], h => h.elim
theorem CRel.mono (hx : Ext ρ ρ') {c : SC} {v : Value} (h : CRel ρ c v) : CRel ρ' c v := by
  cases c with
  | e x => exact h
  | p b off => obtain ⟨n, a, k⟩ := h; exact ⟨n, hx _ _ a, k⟩
  | fn f caps => obtain ⟨vs, a, k⟩ := h; exact ⟨vs, a.mono hx, k⟩
  | sl b off len cap => obtain ⟨n, a, k⟩ := h; exact ⟨n, hx _ _ a, k⟩
theorem CsRel.mono (hx : Ext ρ ρ') : ∀ {cs : List SC} {vs : List Value}, CsRel ρ cs vs → CsRel ρ' cs vs
  | [], [], _ => trivial
  | _ :: _, _ :: _, ⟨a, k⟩ => ⟨a.mono hx, CsRel.mono hx k⟩
  | [], _ :: _, h => h.elim
  | _ :: _, [], h => h.elim
theorem PRel.mono (hx : Ext ρ ρ') {c : SP} {v : Value} (h : PRel ρ c v) : PRel ρ' c v := by
  cases c with
  | c x => exact CRel.mono hx h
  | agg cs => obtain ⟨vs, a, k⟩ := h; exact ⟨vs, a, k.mono hx⟩
theorem PsRel.mono (hx : Ext ρ ρ') : ∀ {cs : List SP} {vs : List Value}, PsRel ρ cs vs → PsRel ρ' cs vs
  | [], [], _ => trivial
  | _ :: _, _ :: _, ⟨a, k⟩ => ⟨a.mono hx, PsRel.mono hx k⟩
  | [], _ :: _, h => h.elim
  | _ :: _, [], h => h.elim
theorem VRel.mono (hx : Ext ρ ρ') {c : SV} {v : Value} (h : VRel ρ c v) : VRel ρ' c v := by
  cases c with
  | p x => exact PRel.mono hx h
  | tup cs => obtain ⟨vs, a, k⟩ := h; exact ⟨vs, a, k.mono hx⟩
theorem VsRel.mono (hx : Ext ρ ρ') : ∀ {cs : List SV} {vs : List Value}, VsRel ρ cs vs → VsRel ρ' cs vs
  | [], [], _ => trivial
  | _ :: _, _ :: _, ⟨a, k⟩ => ⟨a.mono hx, VsRel.mono hx k⟩
  | [], _ :: _, h => h.elim
  | _ :: _, [], h => h.elim

theorem CRel.one {c : SC} {v : Value} (h : CRel ρ c v) : v.oneCell' = true := by
  cases c with
  | e x => obtain ⟨_, κ, _, k⟩ := h; exact k.one
  | p b off => obtain ⟨n, _, rfl⟩ := h; rfl
  | fn f caps => obtain ⟨vs, _, rfl⟩ := h; rfl
  | sl b off len cap => obtain ⟨n, _, rfl⟩ := h; rfl
theorem cells_one {v : Value} (h : v.oneCell' = true) : v.cells = #[v] := by cases v <;> first | rfl | (simp [Value.oneCell'] at h)
theorem PRel.cells {x : SP} {v : Value} (h : PRel ρ x v) : CsRel ρ x.cells v.cells.toList := by
  cases x with
  | c x => rw [cells_one (CRel.one h)]; exact ⟨h, trivial⟩
  | agg cs => obtain ⟨vs, rfl, k⟩ := h; simpa [Value.cells, SP.cells] using k

theorem CsRel.length : ∀ {cs : List SC} {vs : List Value}, CsRel ρ cs vs → cs.length = vs.length
  | [], [], _ => rfl
  | _ :: _, _ :: _, ⟨_, k⟩ => by simp [CsRel.length k]
  | [], _ :: _, h => h.elim
  | _ :: _, [], h => h.elim
theorem CsRel.get : ∀ {cs : List SC} {vs : List Value} {i : Nat} {c : SC}, CsRel ρ cs vs → cs[i]? = some c → ∃ v, vs[i]? = some v ∧ CRel ρ c v
  | [], [], _, _, _, h => by simp at h
  | c :: _, v :: _, 0, _, ⟨a, _⟩, h => ⟨v, by simp, by simp at h; exact h ▸ a⟩
  | _ :: _, _ :: _, i + 1, _, ⟨_, k⟩, h => by simpa using CsRel.get (i := i) k (by simpa using h)
  | [], _ :: _, _, _, h, _ => h.elim
  | _ :: _, [], _, _, h, _ => h.elim
theorem CsRel.drop : ∀ {cs : List SC} {vs : List Value} (n : Nat), CsRel ρ cs vs → CsRel ρ (cs.drop n) (vs.drop n)
  | [], [], _, _ => by simp [CsRel]
  | _ :: _, _ :: _, 0, h => h
  | _ :: _, _ :: _, n + 1, ⟨_, k⟩ => by simpa using CsRel.drop n k
  | [], _ :: _, _, h => h.elim
  | _ :: _, [], _, h => h.elim
theorem CsRel.take : ∀ {cs : List SC} {vs : List Value} (n : Nat), CsRel ρ cs vs → CsRel ρ (cs.take n) (vs.take n)
  | [], [], _, _ => by simp [CsRel]
  | _ :: _, _ :: _, 0, _ => by simp [CsRel]
  | _ :: _, _ :: _, n + 1, ⟨a, k⟩ => by simpa using ⟨a, CsRel.take n k⟩
  | [], _ :: _, _, h => h.elim
  | _ :: _, [], _, h => h.elim
theorem CsRel.set : ∀ {cs : List SC} {vs : List Value} {c : SC} {v : Value} (n : Nat), CsRel ρ cs vs → CRel ρ c v → CsRel ρ (cs.set n c) (vs.set n v)
  | [], [], _, _, _, _, _ => by simp [CsRel]
  | _ :: _, _ :: _, _, _, 0, ⟨_, k⟩, hc => by simpa using ⟨hc, k⟩
  | _ :: _, _ :: _, _, _, n + 1, ⟨a, k⟩, hc => by simpa using ⟨a, CsRel.set n k hc⟩
  | [], _ :: _, _, _, _, h, _ => h.elim
  | _ :: _, [], _, _, _, h, _ => h.elim
theorem CsRel.append : ∀ {cs : List SC} {vs : List Value} {ds : List SC} {us : List Value}, CsRel ρ cs vs → CsRel ρ ds us → CsRel ρ (cs ++ ds) (vs ++ us)
  | [], [], _, _, _, h => by simpa using h
  | _ :: _, _ :: _, _, _, ⟨a, k⟩, h => by simpa using ⟨a, CsRel.append k h⟩
  | [], _ :: _, _, _, h, _ => h.elim
  | _ :: _, [], _, _, h, _ => h.elim

theorem PsRel.get : ∀ {cs : List SP} {vs : List Value} {i : Nat} {c : SP}, PsRel ρ cs vs → cs[i]? = some c → ∃ v, vs[i]? = some v ∧ PRel ρ c v
  | [], [], _, _, _, h => by simp at h
  | c :: _, v :: _, 0, _, ⟨a, _⟩, h => ⟨v, by simp, by simp at h; exact h ▸ a⟩
  | _ :: _, _ :: _, i + 1, _, ⟨_, k⟩, h => by simpa using PsRel.get (i := i) k (by simpa using h)
  | [], _ :: _, _, _, h, _ => h.elim
  | _ :: _, [], _, _, h, _ => h.elim
theorem VsRel.get : ∀ {cs : List SV} {vs : List Value} {i : Nat} {c : SV}, VsRel ρ cs vs → cs[i]? = some c → ∃ v, vs[i]? = some v ∧ VRel ρ c v
  | [], [], _, _, _, h => by simp at h
  | c :: _, v :: _, 0, _, ⟨a, _⟩, h => ⟨v, by simp, by simp at h; exact h ▸ a⟩
  | _ :: _, _ :: _, i + 1, _, ⟨_, k⟩, h => by simpa using VsRel.get (i := i) k (by simpa using h)
  | [], _ :: _, _, _, h, _ => h.elim
  | _ :: _, [], _, _, h, _ => h.elim
theorem VsRel.length : ∀ {cs : List SV} {vs : List Value}, VsRel ρ cs vs → cs.length = vs.length
  | [], [], _ => rfl
  | _ :: _, _ :: _, ⟨_, k⟩ => by simp [VsRel.length k]
  | [], _ :: _, h => h.elim
  | _ :: _, [], h => h.elim
theorem VsRel.append : ∀ {cs : List SV} {vs : List Value} {ds : List SV} {us : List Value}, VsRel ρ cs vs → VsRel ρ ds us → VsRel ρ (cs ++ ds) (vs ++ us)
  | [], [], _, _, _, h => by simpa using h
  | _ :: _, _ :: _, _, _, ⟨a, k⟩, h => by simpa using ⟨a, VsRel.append k h⟩
  | [], _ :: _, _, _, h, _ => h.elim
  | _ :: _, [], _, _, h, _ => h.elim
theorem VsRel.set : ∀ {cs : List SV} {vs : List Value} {c : SV} {v : Value} (n : Nat), VsRel ρ cs vs → VRel ρ c v → VsRel ρ (cs.set n c) (vs.set n v)
  | [], [], _, _, _, _, _ => by simp [VsRel]
  | _ :: _, _ :: _, _, _, 0, ⟨_, k⟩, hc => by simpa using ⟨hc, k⟩
  | _ :: _, _ :: _, _, _, n + 1, ⟨a, k⟩, hc => by simpa using ⟨a, VsRel.set n k hc⟩
  | [], _ :: _, _, _, _, h, _ => h.elim
  | _ :: _, [], _, _, _, h, _ => h.elim
theorem undef_rel : VRel ρ undefS undef := ⟨[], rfl, trivial⟩
theorem VsRel.undefs : ∀ n, VsRel ρ (List.replicate n undefS) (List.replicate n undef)
  | 0 => trivial
  | n + 1 => ⟨undef_rel, VsRel.undefs n⟩
end

/-! Cells of constants. -/
theorem ofCell_rel {ρ : Rho} {v : Value} {c : SC} (h : ofCell v = some c) : CRel ρ c v := by
  unfold ofCell at h
  split at h
  · rename_i k n
    split at h
    · rename_i hc
      simp at hc h
      subst h
      exact ⟨rfl, .i k, rfl, n, rfl, hc.1, hc.2⟩
    · simp at h
  · simp at h
  · simp at h
  · rename_i hi ha ht
    simp at h
    subst h
    cases v <;> first
      | exact ⟨rfl, .b, rfl, _, rfl⟩
      | exact ⟨rfl, .s, rfl, _, rfl⟩
      | exact ⟨rfl, .o, rfl, rfl⟩
      | exact absurd rfl (hi _ _)
      | exact absurd rfl (ha _)
      | exact absurd rfl (ht _)
theorem ofCells_rel {ρ : Rho} : ∀ {vs : List Value} {cs : List SC}, ofCells vs = some cs → CsRel ρ cs vs
  | [], cs, h => by simp [ofCells] at h; subst h; trivial
  | v :: vs, cs, h => by
    simp only [ofCells] at h
    split at h
    · rename_i c ds hc hd
      simp at h
      subst h
      exact ⟨ofCell_rel hc, ofCells_rel hd⟩
    · simp at h
theorem ofConst_rel {ρ : Rho} {v : Value} {s : SV} (h : ofConst v = some s) : VRel ρ s v := by
  unfold ofConst at h
  split at h
  · rename_i cs
    cases hc : ofCells cs.toList with
    | none => simp [hc] at h
    | some ds => simp [hc] at h; subst h; exact ⟨cs.toList, by simp, ofCells_rel hc⟩
  · cases hc : ofCell v with
    | none => simp [hc] at h
    | some ds => simp [hc] at h; subst h; exact ofCell_rel hc

/-! Trees. -/
theorem den_bind {α β : Type} (t : Tree α) (k : α → Tree β) : (t.bind k).den = t.den.bind fun a => (k a).den := by
  induction t with
  | ret a => simp [Tree.bind, Tree.den]
  | ite c t f iht ihf => simp only [Tree.bind, Tree.den, iht, ihf]; cases tru c.den <;> rfl
  | fail => simp [Tree.bind, Tree.den]
theorem den_bind_some {α β : Type} {t : Tree α} {k : α → Tree β} {b : β} (h : (t.bind k).den = some b) : ∃ a, t.den = some a ∧ (k a).den = some b := by
  rw [den_bind] at h
  cases ht : t.den with
  | none => simp [ht] at h
  | some a => exact ⟨a, rfl, by simpa [ht] using h⟩

/-! Numbers. -/
theorem eqIK {k k' : IntKind} (h : binEqIK k k' = true) : k' = k := by cases k <;> cases k' <;> first | rfl | simp [binEqIK] at h
theorem eqSK_eq {k k' : SK} (h : eqSK k k' = true) : k' = k := by
  cases k <;> cases k' <;> first | rfl | (simp [eqSK] at h; done) | (simp only [eqSK] at h; rw [eqIK h])
theorem tmod_within (k : IntKind) (x y : Int) (h0 : k.min ≤ x) (h1 : x ≤ k.max) : k.min ≤ x.tmod y ∧ x.tmod y ≤ k.max := by
  have hm : k.min ≤ 0 := by cases k <;> decide
  have hM : 0 ≤ k.max := by cases k <;> decide
  have e := Int.natAbs_tmod x y
  have l := Nat.mod_le x.natAbs y.natAbs
  rcases Int.le_total 0 x with h | h
  · have a := Int.tmod_nonneg y h
    omega
  · have e2 : x.tmod y = -((-x).tmod y) := by rw [Int.neg_tmod]; omega
    have a := Int.tmod_nonneg y (a := -x) (by omega)
    omega
theorem fdiv_within (k : IntKind) (x : Int) (n : Nat) (h0 : k.min ≤ x) (h1 : x ≤ k.max) : k.min ≤ x.fdiv (2 ^ n) ∧ x.fdiv (2 ^ n) ≤ k.max := by
  have hm : k.min ≤ 0 := by cases k <;> decide
  have hM : 0 ≤ k.max := by cases k <;> decide
  have hp : (0 : Int) < 2 ^ n := Int.pow_pos (by decide)
  rw [Int.fdiv_eq_ediv_of_nonneg _ (by omega)]
  generalize hq : (2 : Int) ^ n = q at hp
  have e := Int.mul_ediv_add_emod x q
  have r0 := Int.emod_nonneg x (show q ≠ 0 by omega)
  have r1 := Int.emod_lt_of_pos x hp
  rcases Int.le_total 0 x with h | h
  · have a : 0 ≤ x / q := Int.ediv_nonneg h (by omega)
    have b : x / q ≤ x := Int.ediv_le_self _ h
    omega
  · have a : x / q ≤ 0 := Int.ediv_nonpos_of_nonpos_of_neg h hp
    have b : x ≤ x / q := by
      have : q * (x / q) ≤ x / q := by
        have : 0 ≤ (q - 1) * (-(x / q)) := Int.mul_nonneg (by omega) (by omega)
        have h2 : (q - 1) * (-(x / q)) = -(q * (x / q)) + x / q := by rw [Int.sub_mul, Int.mul_neg, Int.one_mul]; omega
        omega
      have := Int.le_ediv_of_mul_le hp (show x * q ≤ x by
        have : 0 ≤ (q - 1) * (-x) := Int.mul_nonneg (by omega) (by omega)
        have h2 : (q - 1) * (-x) = -(x * q) + x := by rw [Int.sub_mul, Int.mul_neg, Int.one_mul, Int.mul_comm q x]; omega
        omega)
      exact this
    omega
theorem binI_within (op : BinOp) (k : IntKind) (x y : Int) (h0 : k.min ≤ x) (h1 : x ≤ k.max) : k.min ≤ binI op k x y ∧ binI op k x y ≤ k.max := by
  have hm : k.min ≤ 0 := by cases k <;> decide
  have hM : 0 ≤ k.max := by cases k <;> decide
  cases op <;> simp only [binI] <;> first
    | exact wrap_within k _
    | exact bits_within _ k _ _
    | exact tmod_within k x y h0 h1
    | exact fdiv_within k x _ h0 h1
    | exact ⟨hm, hM⟩
theorem wrap_in (k : IntKind) (x : Int) (h0 : k.min ≤ x) (h1 : x ≤ k.max) : k.wrap x = x := by
  cases k <;> simp [IntKind.min, IntKind.max, IntKind.bits, IntKind.signed] at h0 h1 <;> simp [IntKind.wrap, IntKind.bits, IntKind.signed] <;> (try split) <;> omega
theorem widens_spec {j k : IntKind} (h : widens j k = true) : k.min ≤ j.min ∧ j.max ≤ k.max := by
  simpa [widens] using h

/-- What it is to be an expression's cell. -/
theorem erel_int {ρ : Rho} {a : SE} {v : Value} {k : IntKind} (h : CRel ρ (.e a) v) (hk : a.kind = some (.i k)) : ∃ n, v = .int k n ∧ a.den = .int k n ∧ k.min ≤ n ∧ n ≤ k.max := by
  obtain ⟨hd, κ, hκ, hi⟩ := h
  rw [hk] at hκ
  cases hκ
  obtain ⟨n, rfl, a, b⟩ := hi
  exact ⟨n, rfl, hd.symm, a, b⟩
theorem erel_bool {ρ : Rho} {a : SE} {v : Value} (h : CRel ρ (.e a) v) (hk : a.kind = some .b) : ∃ t, v = .bool t ∧ a.den = .bool t := by
  obtain ⟨hd, κ, hκ, hi⟩ := h
  rw [hk] at hκ
  cases hκ
  obtain ⟨n, rfl⟩ := hi
  exact ⟨n, rfl, hd.symm⟩
theorem erel_str {ρ : Rho} {a : SE} {v : Value} (h : CRel ρ (.e a) v) (hk : a.kind = some .s) : ∃ t, v = .string t ∧ a.den = .string t := by
  obtain ⟨hd, κ, hκ, hi⟩ := h
  rw [hk] at hκ
  cases hκ
  obtain ⟨n, rfl⟩ := hi
  exact ⟨n, rfl, hd.symm⟩
theorem eqBs_eq : ∀ (a b : List UInt8), eqBs a b = (a == b)
  | [], [] => rfl
  | [], _ :: _ => rfl
  | _ :: _, [] => rfl
  | a :: x, b :: y => by
    have e : Nat.beq a.toNat b.toNat = (a == b) := by
      rw [Bool.eq_iff_iff]
      simp [UInt8.toNat_inj]
    simp only [eqBs, e, eqBs_eq x y]
    rfl
theorem eqStr_eq (a b : ByteArray) : eqStr a b = (a.toList == b.toList) := by
  rw [ByteArray.toList_eq, ByteArray.toList_eq]
  exact eqBs_eq _ _
theorem erel_of_bool {ρ : Rho} {a : SE} {t : Bool} (hk : a.kind = some .b) (hd : a.den = .bool t) : CRel ρ (.e a) (.bool t) := ⟨hd.symm, .b, hk, t, rfl⟩
theorem erel_of_int {ρ : Rho} {a : SE} {k : IntKind} {n : Int} (hk : a.kind = some (.i k)) (hd : a.den = .int k n) (h0 : k.min ≤ n) (h1 : n ≤ k.max) : CRel ρ (.e a) (.int k n) := ⟨hd.symm, .i k, hk, n, rfl, h0, h1⟩

section
variable {ρ : Rho}
theorem mkBin_rel (op : BinOp) {k k' : IntKind} {a b : SE} {x y : Int} (da : a.den = .int k x) (db : b.den = .int k' y) (h0 : k.min ≤ x) (h1 : x ≤ k.max) : CRel ρ (.e (mkBin op k a b)) (.int k (binI op k x y)) := by
  have w := binI_within op k x y h0 h1
  unfold mkBin
  split
  · simp [SE.den] at da db
    obtain ⟨_, rfl⟩ := da
    obtain ⟨_, rfl⟩ := db
    exact ⟨rfl, .i k, rfl, _, rfl, w⟩
  · exact ⟨by simp [SE.den, da, db, num], .i k, rfl, _, rfl, w⟩
theorem mkCmp_rel (op : BinOp) {k k' : IntKind} {a b : SE} {x y : Int} (da : a.den = .int k x) (db : b.den = .int k' y) : CRel ρ (.e (mkCmp op a b)) (.bool (cmpB op x y)) := by
  unfold mkCmp
  split
  · simp [SE.den] at da db
    obtain ⟨_, rfl⟩ := da
    obtain ⟨_, rfl⟩ := db
    exact ⟨rfl, .b, rfl, _, rfl⟩
  · exact ⟨by simp [SE.den, da, db, num], .b, rfl, _, rfl⟩
theorem mkBeq_rel {a b : SE} {x y : Bool} (da : a.den = .bool x) (db : b.den = .bool y) : CRel ρ (.e (mkBeq a b)) (.bool (x == y)) := by
  unfold mkBeq
  split
  · simp [SE.den] at da db
    subst da db
    exact ⟨rfl, .b, rfl, _, rfl⟩
  · exact ⟨by simp [SE.den, da, db, tru], .b, rfl, _, rfl⟩
theorem mkSeq_rel {a b : SE} {x y : ByteArray} (da : a.den = .string x) (db : b.den = .string y) : CRel ρ (.e (mkSeq a b)) (.bool (eqStr x y)) := by
  unfold mkSeq
  split
  · simp [SE.den] at da db
    subst da db
    exact ⟨rfl, .b, rfl, _, rfl⟩
  · exact ⟨by simp [SE.den, da, db, str], .b, rfl, _, rfl⟩
theorem mkNeg_rel {a : SE} {x : Bool} (da : a.den = .bool x) : CRel ρ (.e (mkNeg a)) (.bool (!x)) := by
  unfold mkNeg
  split
  · simp [SE.den] at da
    subst da
    exact ⟨rfl, .b, rfl, _, rfl⟩
  · exact ⟨by simp [SE.den, da, tru], .b, rfl, _, rfl⟩
theorem mkCon_rel {a b : SE} {x y : Bool} (da : CRel ρ (.e a) (.bool x)) (db : CRel ρ (.e b) (.bool y)) : CRel ρ (.e (mkCon a b)) (.bool (x && y)) := by
  unfold mkCon
  split
  · have := da.1; simp [SE.den] at this; subst this; simpa using db
  · have := da.1; simp [SE.den] at this; subst this; simpa using da
  · have := db.1; simp [SE.den] at this; subst this; simpa using da
  · exact ⟨by simp [SE.den, ← da.1, ← db.1, tru], .b, rfl, _, rfl⟩
theorem mkCv_rel (k : IntKind) {j : IntKind} {a : SE} {x : Int} (da : a.den = .int j x) (h0 : j.min ≤ x) (h1 : x ≤ j.max) : CRel ρ (.e (mkCv k j a)) (.int k (k.wrap x)) := by
  have w := wrap_within k x
  unfold mkCv
  split
  · simp [SE.den] at da
    obtain ⟨_, rfl⟩ := da
    exact ⟨rfl, .i k, rfl, _, rfl, w⟩
  · split
    · rename_i hw
      obtain ⟨a0, a1⟩ := widens_spec hw
      have e : k.wrap x = x := wrap_in k x (by omega) (by omega)
      rw [e]
      exact ⟨by simp [SE.den, da, num], .i k, rfl, _, rfl, by omega, by omega⟩
    · exact ⟨by simp [SE.den, da, num], .i k, rfl, _, rfl, w⟩
theorem mkMn_rel {k k' : IntKind} {a b : SE} {x y : Int} (da : a.den = .int k x) (db : b.den = .int k' y) (h0 : k.min ≤ x) (h1 : x ≤ k.max) (h2 : k.min ≤ y) (h3 : y ≤ k.max) :
    CRel ρ (.e (mkMn k a b)) (.int k (if y < x then y else x)) := by
  have w : k.min ≤ (if y < x then y else x) ∧ (if y < x then y else x) ≤ k.max := by split <;> omega
  unfold mkMn
  split
  · simp [SE.den] at da db
    obtain ⟨_, rfl⟩ := da
    obtain ⟨_, rfl⟩ := db
    exact ⟨rfl, .i k, rfl, _, rfl, w⟩
  · exact ⟨by simp [SE.den, da, db, num], .i k, rfl, _, rfl, w⟩
theorem mkMx_rel {k k' : IntKind} {a b : SE} {x y : Int} (da : a.den = .int k x) (db : b.den = .int k' y) (h0 : k.min ≤ x) (h1 : x ≤ k.max) (h2 : k.min ≤ y) (h3 : y ≤ k.max) :
    CRel ρ (.e (mkMx k a b)) (.int k (if y > x then y else x)) := by
  have w : k.min ≤ (if y > x then y else x) ∧ (if y > x then y else x) ≤ k.max := by split <;> omega
  unfold mkMx
  split
  · simp [SE.den] at da db
    obtain ⟨_, rfl⟩ := da
    obtain ⟨_, rfl⟩ := db
    exact ⟨rfl, .i k, rfl, _, rfl, w⟩
  · exact ⟨by simp [SE.den, da, db, num], .i k, rfl, _, rfl, w⟩
end
end Go.Proofs.YtiooegkbkahppaaDoor
