/- The symbolic evaluator: what its states mean, its operations, shapes and told bodies are sound. No condition. -/
import Derived.Test.YtdioaiepkhepaaaGreatDoorEv1
import Derived.ChangeKeysEq
import Derived.Laws.Tables
import Derived.Laws.OwnMore
import Derived.Laws.Slices
namespace Go.Proofs.YtdioaiepkhepaaaGreatDoor
open Go.RowKit
def inPl : SK → Value → Prop
 | .i k, v => ∃ n, v = .int k n ∧ k.min ≤ n ∧ n ≤ k.max
 | .b, v => ∃ t, v = .bool t
 | .s, v => ∃ t, v = .string t
 | .o, v => v.oneCell' = true
 | _, _ => False
theorem inPl.norm {κ : SK} {v : Value} (h : inPl κ v) : norm κ v = v := by
 cases κ with
 | i k => obtain ⟨n, rfl, _⟩ := h; rfl
 | b => obtain ⟨t, rfl⟩ := h; rfl
 | s => obtain ⟨t, rfl⟩ := h; rfl
 | o => rfl
 | l _ => exact h.elim
 | q _ => exact h.elim
 | f _ _ => exact h.elim
theorem inPl.one {κ : SK} {v : Value} (h : inPl κ v) : v.oneCell' = true := by
 cases κ with
 | i k => obtain ⟨n, rfl, _⟩ := h; rfl
 | b => obtain ⟨n, rfl⟩ := h; rfl
 | s => obtain ⟨n, rfl⟩ := h; rfl
 | o => exact h
 | l _ => exact h.elim
 | q _ => exact h.elim
 | f _ _ => exact h.elim
theorem inPl.pl {κ : SK} {v : Value} (h : inPl κ v) : isPl κ = true := by
 cases κ with
 | l _ => exact h.elim
 | q _ => exact h.elim
 | f _ _ => exact h.elim
 | _ => rfl
mutual
def inKind : SK → Value → Prop
 | .i k, v => ∃ n, v = .int k n ∧ k.min ≤ n ∧ n ≤ k.max
 | .b, v => ∃ t, v = .bool t
 | .s, v => ∃ t, v = .string t
 | .o, v => v.oneCell' = true
 | .l κs, v => ∃ es : List Value, v = .agg es.toArray ∧ es.length ≤ 9223372036854775807 ∧ ∀ e ∈ es, ∃ cs : List Value, e = .agg cs.toArray ∧ KindsL κs cs
 | .q κs, v => ∃ cs : List Value, v = .agg cs.toArray ∧ KindsL κs cs
 | .f _ κs, v => ∃ cs : List Value, v = .agg cs.toArray ∧ KindsL κs cs
def KindsL : List SK → List Value → Prop
 | [], vs => vs = []
 | κ :: κs, vs => ∃ v us, vs = v :: us ∧ inKind κ v ∧ KindsL κs us
end
theorem inKind_pl {κ : SK} {v : Value} (h : isPl κ = true) : inKind κ v ↔ inPl κ v := by
 cases κ <;> first | (simp [isPl] at h; done) | (simp only [inKind, inPl])
theorem inPl.kind {κ : SK} {v : Value} (h : inPl κ v) : inKind κ v := (inKind_pl h.pl).2 h
theorem inKind.norm {κ : SK} {v : Value} (h : inKind κ v) : norm κ v = v := by
 cases κ with
 | i k => obtain ⟨n, rfl, _⟩ := (inKind_pl (κ := .i k) rfl).1 h; rfl
 | b => obtain ⟨t, rfl⟩ := (inKind_pl (κ := .b) rfl).1 h; rfl
 | s => obtain ⟨t, rfl⟩ := (inKind_pl (κ := .s) rfl).1 h; rfl
 | o => rfl
 | l _ => rfl
 | q _ => rfl
 | f _ _ => rfl
mutual
def RdK (m : Addr → Option Value) : SK → Value → Value → Prop
 | .i k, v, d => v = d ∧ inPl (.i k) d
 | .b, v, d => v = d ∧ inPl .b d
 | .s, v, d => v = d ∧ inPl .s d
 | .o, v, d => v = d ∧ inPl .o d
 | .l κs, v, d => ∃ (p : Option Addr) (n cap : Nat) (es : List Value), v = .slice p n cap ∧ d = .agg es.toArray ∧ es.length = n ∧ n ≤ 9223372036854775807 ∧ n ≤ cap ∧ (p = none → cap = 0) ∧
  ∀ i e, es[i]? = some e → ∃ (a : Addr) (us cs : List Value), p = some a ∧ e = .agg cs.toArray ∧ (∀ j u, us[j]? = some u → m ((a.add (i * κs.length)).add j) = some u) ∧ RdKs m κs us cs
 | .q κs, v, d => ∃ (a : Addr) (us cs : List Value), v = .pointer (some a) ∧ d = .agg cs.toArray ∧ (∀ j u, us[j]? = some u → m (a.add j) = some u) ∧ RdKs m κs us cs
 | .f n κs, v, d => ∃ us cs : List Value, v = .func (.func n) #[] us.toArray ∧ d = .agg cs.toArray ∧ κs.all isQ = true ∧ RdKs m κs us cs
def RdKs (m : Addr → Option Value) : List SK → List Value → List Value → Prop
 | [], vs, ds => vs = [] ∧ ds = []
 | κ :: κs, vs, ds => ∃ v us d es, vs = v :: us ∧ ds = d :: es ∧ RdK m κ v d ∧ RdKs m κs us es
end
theorem RdK_pl {m : Addr → Option Value} {κ : SK} {v d : Value} (h : isPl κ = true) : RdK m κ v d ↔ (v = d ∧ inPl κ d) := by
 cases κ <;> first | (simp [isPl] at h; done) | (simp only [RdK])
mutual
theorem RdK.mono {m m' : Addr → Option Value} : ∀ {κ : SK} {v d : Value}, (∀ a u, m a = some u → m' a = some u) → RdK m κ v d → RdK m' κ v d
 | .i _, _, _, _, h => by simpa only [RdK] using h
 | .b, _, _, _, h => by simpa only [RdK] using h
 | .s, _, _, _, h => by simpa only [RdK] using h
 | .o, _, _, _, h => by simpa only [RdK] using h
 | .l κs, v, d, hm, h => by
  simp only [RdK] at h ⊢
  obtain ⟨p, n, cap, es, e1, e2, e3, e4, e5, e6, k⟩ := h
  refine ⟨p, n, cap, es, e1, e2, e3, e4, e5, e6, fun i e he => ?_⟩
  obtain ⟨a, us, cs, q1, q2, q3, q4⟩ := k i e he
  exact ⟨a, us, cs, q1, q2, fun j u hj => hm _ _ (q3 j u hj), RdKs.mono hm q4⟩
 | .q κs, v, d, hm, h => by
  simp only [RdK] at h ⊢
  obtain ⟨a, us, cs, q1, q2, q3, q4⟩ := h
  exact ⟨a, us, cs, q1, q2, fun j u hj => hm _ _ (q3 j u hj), RdKs.mono hm q4⟩
 | .f n κs, v, d, hm, h => by
  simp only [RdK] at h ⊢
  obtain ⟨us, cs, q1, q2, q3, q4⟩ := h
  exact ⟨us, cs, q1, q2, q3, RdKs.mono hm q4⟩
theorem RdKs.mono {m m' : Addr → Option Value} : ∀ {κs : List SK} {vs ds : List Value}, (∀ a u, m a = some u → m' a = some u) → RdKs m κs vs ds → RdKs m' κs vs ds
 | [], _, _, _, h => by simpa only [RdKs] using h
 | κ :: κs, vs, ds, hm, h => by
  simp only [RdKs] at h ⊢
  obtain ⟨v, us, d, es, e1, e2, q1, q2⟩ := h
  exact ⟨v, us, d, es, e1, e2, RdK.mono hm q1, RdKs.mono hm q2⟩
end
mutual
theorem RdK.kind {m : Addr → Option Value} : ∀ {κ : SK} {v d : Value}, RdK m κ v d → inKind κ d
 | .i k, _, _, h => ((RdK_pl (κ := .i k) rfl).1 h).2.kind
 | .b, _, _, h => ((RdK_pl (κ := .b) rfl).1 h).2.kind
 | .s, _, _, h => ((RdK_pl (κ := .s) rfl).1 h).2.kind
 | .o, _, _, h => ((RdK_pl (κ := .o) rfl).1 h).2.kind
 | .l κs, v, d, h => by
  simp only [RdK] at h
  obtain ⟨p, n, cap, es, e1, e2, e3, e4, _, _, k⟩ := h
  simp only [inKind]
  refine ⟨es, e2, by omega, fun e he => ?_⟩
  obtain ⟨i, hi⟩ := List.getElem?_of_mem he
  obtain ⟨a, us, cs, q1, q2, q3, q4⟩ := k i e hi
  exact ⟨cs, q2, RdKs.kinds q4⟩
 | .q κs, v, d, h => by
  simp only [RdK] at h
  obtain ⟨a, us, cs, q1, q2, q3, q4⟩ := h
  simp only [inKind]
  exact ⟨cs, q2, RdKs.kinds q4⟩
 | .f n κs, v, d, h => by
  simp only [RdK] at h
  obtain ⟨us, cs, q1, q2, _, q4⟩ := h
  simp only [inKind]
  exact ⟨cs, q2, RdKs.kinds q4⟩
theorem RdKs.kinds {m : Addr → Option Value} : ∀ {κs : List SK} {vs ds : List Value}, RdKs m κs vs ds → KindsL κs ds
 | [], _, _, h => by simp only [RdKs] at h; simp only [KindsL]; exact h.2
 | κ :: κs, vs, ds, h => by
  simp only [RdKs] at h
  obtain ⟨v, us, d, es, e1, e2, q1, q2⟩ := h
  simp only [KindsL]
  exact ⟨d, es, e2, RdK.kind q1, RdKs.kinds q2⟩
end
theorem RdK.one {m : Addr → Option Value} {κ : SK} {v d : Value} (h : RdK m κ v d) : v.oneCell' = true := by
 cases κ with
 | l κs => simp only [RdK] at h; obtain ⟨p, n, cap, es, rfl, _⟩ := h; rfl
 | q κs => simp only [RdK] at h; obtain ⟨a, us, cs, rfl, _⟩ := h; rfl
 | f n κs => simp only [RdK] at h; obtain ⟨us, cs, rfl, _⟩ := h; rfl
 | i k => obtain ⟨rfl, h⟩ := (RdK_pl rfl).1 h; exact h.one
 | b => obtain ⟨rfl, h⟩ := (RdK_pl rfl).1 h; exact h.one
 | s => obtain ⟨rfl, h⟩ := (RdK_pl rfl).1 h; exact h.one
 | o => obtain ⟨rfl, h⟩ := (RdK_pl rfl).1 h; exact h.one
theorem RdKs.length {m : Addr → Option Value} : ∀ {κs : List SK} {vs ds : List Value}, RdKs m κs vs ds → vs.length = κs.length ∧ ds.length = κs.length
 | [], _, _, h => by simp only [RdKs] at h; simp [h.1, h.2]
 | κ :: κs, vs, ds, h => by
  simp only [RdKs] at h
  obtain ⟨v, us, d, es, rfl, rfl, q1, q2⟩ := h
  have := RdKs.length q2
  simp [this.1, this.2]
theorem RdKs.get {m : Addr → Option Value} : ∀ {κs : List SK} {vs ds : List Value} {i : Nat} {κ : SK}, RdKs m κs vs ds → κs[i]? = some κ → ∃ v d, vs[i]? = some v ∧ ds[i]? = some d ∧ RdK m κ v d
 | [], _, _, i, κ, h, hi => by simp at hi
 | κ0 :: κs, vs, ds, i, κ, h, hi => by
  simp only [RdKs] at h
  obtain ⟨v, us, d, es, rfl, rfl, q1, q2⟩ := h
  cases i with
  | zero => simp at hi; subst hi; exact ⟨v, d, rfl, rfl, q1⟩
  | succ i => simpa using RdKs.get q2 (by simpa using hi)
theorem RdKs.drop {m : Addr → Option Value} : ∀ {κs : List SK} {vs ds : List Value} (n : Nat), RdKs m κs vs ds → RdKs m (κs.drop n) (vs.drop n) (ds.drop n)
 | _, _, _, 0, h => by simpa using h
 | [], _, _, n + 1, h => by simp only [RdKs] at h; simp [h.1, h.2, RdKs]
 | κ :: κs, vs, ds, n + 1, h => by
  simp only [RdKs] at h
  obtain ⟨v, us, d, es, rfl, rfl, q1, q2⟩ := h
  simpa using RdKs.drop n q2
theorem RdKs.take {m : Addr → Option Value} : ∀ {κs : List SK} {vs ds : List Value} (n : Nat), RdKs m κs vs ds → RdKs m (κs.take n) (vs.take n) (ds.take n)
 | _, _, _, 0, h => by simp [RdKs]
 | [], _, _, n + 1, h => by simp only [RdKs] at h; simp [h.1, h.2, RdKs]
 | κ :: κs, vs, ds, n + 1, h => by
  simp only [RdKs] at h
  obtain ⟨v, us, d, es, rfl, rfl, q1, q2⟩ := h
  simp only [List.take_succ_cons, RdKs]
  exact ⟨v, _, d, _, rfl, rfl, q1, RdKs.take n q2⟩
theorem RdKs.append {m : Addr → Option Value} : ∀ {κs κs' : List SK} {vs ds vs' ds' : List Value}, RdKs m κs vs ds → RdKs m κs' vs' ds' → RdKs m (κs ++ κs') (vs ++ vs') (ds ++ ds')
 | [], _, _, _, _, _, h, k => by simp only [RdKs] at h; simpa [h.1, h.2] using k
 | κ :: κs, _, vs, ds, _, _, h, k => by
  simp only [RdKs] at h
  obtain ⟨v, us, d, es, rfl, rfl, q1, q2⟩ := h
  simp only [List.cons_append, RdKs]
  exact ⟨v, _, d, _, rfl, rfl, q1, RdKs.append q2 k⟩
theorem RdKs.plain {m : Addr → Option Value} : ∀ {κs : List SK} {vs ds : List Value}, κs.all isPl = true → RdKs m κs vs ds → vs = ds
 | [], _, _, _, h => by simp only [RdKs] at h; rw [h.1, h.2]
 | κ :: κs, vs, ds, hp, h => by
  simp only [RdKs] at h
  obtain ⟨v, us, d, es, rfl, rfl, q1, q2⟩ := h
  simp only [List.all_cons, Bool.and_eq_true] at hp
  rw [((RdK_pl hp.1).1 q1).1, RdKs.plain hp.2 q2]
theorem RdKs.of_plain {m : Addr → Option Value} : ∀ {κs : List SK} {vs : List Value}, κs.all isPl = true → KindsL κs vs → RdKs m κs vs vs
 | [], _, _, h => by simp only [KindsL] at h; simp [h, RdKs]
 | κ :: κs, vs, hp, h => by
  simp only [KindsL] at h
  obtain ⟨v, us, rfl, q1, q2⟩ := h
  simp only [List.all_cons, Bool.and_eq_true] at hp
  simp only [RdKs]
  exact ⟨v, us, v, us, rfl, rfl, (RdK_pl hp.1).2 ⟨rfl, (inKind_pl hp.1).1 q1⟩, RdKs.of_plain hp.2 q2⟩
structure ArrV where
 g : Option Nat
 cap : Nat
 len : Nat
structure Rho where
 b : Nat → Option Nat
 a : Nat → Option ArrV
 m : Addr → Option Value
instance : CoeFun Rho (fun _ => Nat → Option Nat) := ⟨Rho.b⟩
structure Ext (ρ ρ' : Rho) : Prop where
 b : ∀ n x, ρ n = some x → ρ' n = some x
 a : ∀ n x, ρ.a n = some x → ρ'.a n = some x
 m : ρ'.m = ρ.m
theorem Ext.mm {ρ ρ' : Rho} (h : Ext ρ ρ') : ∀ n x, ρ.m n = some x → ρ'.m n = some x := fun n x e => by rw [h.m]; exact e
theorem Ext.refl (ρ : Rho) : Ext ρ ρ := ⟨fun _ _ h => h, fun _ _ h => h, rfl⟩
theorem Ext.trans {a b c : Rho} (h : Ext a b) (k : Ext b c) : Ext a c := ⟨fun n x e => k.b n x (h.b n x e), fun n x e => k.a n x (h.a n x e), k.m.trans h.m⟩
def QRel (ρ : Rho) (x : SE) (off : Nat) (v : Value) : Prop :=
 ∃ κs a, x.kind = some (.q κs) ∧ v = .pointer (some (Addr.add a off)) ∧ RdK ρ.m (.q κs) (.pointer (some a)) x.den
def CapsRel (ρ : Rho) : List Cap → List Value → Prop
 | [], [] => True
 | c :: cs, v :: vs => (match c with | .p b off => ∃ n, ρ b = some n ∧ v = .pointer (some ⟨n, off, none⟩) | .q x off => QRel ρ x off v) ∧ CapsRel ρ cs vs
 | _, _ => False
def ARel (ρ : Rho) (n : Nat) (k : Option SE) (v : Value) : Prop :=
 ∃ A L, ρ.a n = some A ∧ A.len ≤ A.cap ∧ A.cap ≤ maxLen ∧ (A.g = none → A.cap = 0) ∧ L ≤ A.len ∧ (k = none → L = A.len) ∧ (∀ x, k = some x → num x.den = (L : Int)) ∧ v = .slice (A.g.map fun g => ⟨g, 0, none⟩) L A.cap
def CRel (ρ : Rho) : SC → Value → Prop
 | .e x, v => v = x.den ∧ ∃ κ, x.kind = some κ ∧ inPl κ v
 | .p b off, v => ∃ n, ρ b = some n ∧ v = .pointer (some ⟨n, off, none⟩)
 | .fn f caps, v => ∃ vs : List Value, CapsRel ρ caps vs ∧ v = .func (.func f) #[] vs.toArray
 | .sl b off len cap, v => ∃ n, ρ b = some n ∧ v = .slice (some ⟨n, off, none⟩) len cap
 | .le x, v => ∃ κs, x.kind = some (.l κs) ∧ RdK ρ.m (.l κs) v x.den
 | .nl z, v => ∃ p, v = .slice p 0 0 ∧ (z = true → p = none)
 | .ar n k, v => ARel ρ n k v
 | .pl x off, v => QRel ρ x off v
 | .pa n sz i off, v => ∃ A g j, ρ.a n = some A ∧ A.g = some g ∧ num i.den = (j : Nat) ∧ j < A.len ∧ v = .pointer (some ⟨g, j * sz + off, none⟩)
 | .np, v => v = .pointer none
def CsRel (ρ : Rho) : List SC → List Value → Prop
 | [], [] => True
 | c :: cs, v :: vs => CRel ρ c v ∧ CsRel ρ cs vs
 | _, _ => False
def PRel (ρ : Rho) : SP → Value → Prop
 | .c x, v => CRel ρ x v
 | .agg cs, v => ∃ vs : List Value, v = .agg vs.toArray ∧ CsRel ρ cs vs
def PsRel (ρ : Rho) : List SP → List Value → Prop
 | [], [] => True
 | c :: cs, v :: vs => PRel ρ c v ∧ PsRel ρ cs vs
 | _, _ => False
def VRel (ρ : Rho) : SV → Value → Prop
 | .p x, v => PRel ρ x v
 | .tup xs, v => ∃ vs : List Value, v = .tuple vs.toArray ∧ PsRel ρ xs vs
 | .any, _ => True
def VsRel (ρ : Rho) : List SV → List Value → Prop
 | [], [] => True
 | c :: cs, v :: vs => VRel ρ c v ∧ VsRel ρ cs vs
 | _, _ => False
section
variable {ρ ρ' : Rho}
theorem QRel.mono (hx : Ext ρ ρ') {x : SE} {off : Nat} {v : Value} (h : QRel ρ x off v) : QRel ρ' x off v := by
 obtain ⟨κs, a, h1, h2, h3⟩ := h
 exact ⟨κs, a, h1, h2, h3.mono hx.mm⟩
theorem CapsRel.mono (hx : Ext ρ ρ') : ∀ {cs : List Cap} {vs : List Value}, CapsRel ρ cs vs → CapsRel ρ' cs vs
 | [], [], _ => trivial
 | .p _ _ :: _, _ :: _, ⟨⟨n, a, b⟩, k⟩ => ⟨⟨n, hx.b _ _ a, b⟩, CapsRel.mono hx k⟩
 | .q _ _ :: _, _ :: _, ⟨a, k⟩ => ⟨QRel.mono hx a, CapsRel.mono hx k⟩
 | [], _ :: _, h => h.elim
 | _ :: _, [], h => h.elim
theorem ARel.mono (hx : Ext ρ ρ') {n : Nat} {k : Option SE} {v : Value} (h : ARel ρ n k v) : ARel ρ' n k v := by
 obtain ⟨A, L, h1, h2⟩ := h
 exact ⟨A, L, hx.a _ _ h1, h2⟩
theorem CRel.mono (hx : Ext ρ ρ') {c : SC} {v : Value} (h : CRel ρ c v) : CRel ρ' c v := by
 cases c with
 | e x => exact h
 | p b off => obtain ⟨n, a, k⟩ := h; exact ⟨n, hx.b _ _ a, k⟩
 | fn f caps => obtain ⟨vs, a, k⟩ := h; exact ⟨vs, a.mono hx, k⟩
 | sl b off len cap => obtain ⟨n, a, k⟩ := h; exact ⟨n, hx.b _ _ a, k⟩
 | le x => obtain ⟨κs, a, k⟩ := h; exact ⟨κs, a, k.mono hx.mm⟩
 | nl z => exact h
 | ar n k => exact ARel.mono hx h
 | pl x off => exact QRel.mono hx h
 | pa n sz i off => obtain ⟨A, g, j, h1, h2⟩ := h; exact ⟨A, g, j, hx.a _ _ h1, h2⟩
 | np => exact h
theorem CsRel.mono (hx : Ext ρ ρ') : ∀ {cs : List SC} {vs : List Value}, CsRel ρ cs vs → CsRel ρ' cs vs
 | [], [], _ => trivial
 | _ :: _, _ :: _, ⟨a, k⟩ => ⟨a.mono hx, CsRel.mono hx k⟩
 | [], _ :: _, h => h.elim
 | _ :: _, [], h => h.elim
theorem PRel.mono (hx : Ext ρ ρ') {c : SP} {v : Value} (h : PRel ρ c v) : PRel ρ' c v := by
 cases c with
 | c x => exact CRel.mono hx h
 | agg cs => obtain ⟨vs, a, k⟩ := h; exact ⟨vs, a, k.mono hx⟩
theorem PsRel.mono (hx : Ext ρ ρ') : ∀ {cs : List SP} {vs : List Value}, PsRel ρ cs vs → PsRel ρ' cs vs
 | [], [], _ => trivial
 | _ :: _, _ :: _, ⟨a, k⟩ => ⟨a.mono hx, PsRel.mono hx k⟩
 | [], _ :: _, h => h.elim
 | _ :: _, [], h => h.elim
theorem VRel.mono (hx : Ext ρ ρ') {c : SV} {v : Value} (h : VRel ρ c v) : VRel ρ' c v := by
 cases c with
 | p x => exact PRel.mono hx h
 | tup cs => obtain ⟨vs, a, k⟩ := h; exact ⟨vs, a, k.mono hx⟩
 | any => trivial
theorem VsRel.mono (hx : Ext ρ ρ') : ∀ {cs : List SV} {vs : List Value}, VsRel ρ cs vs → VsRel ρ' cs vs
 | [], [], _ => trivial
 | _ :: _, _ :: _, ⟨a, k⟩ => ⟨a.mono hx, VsRel.mono hx k⟩
 | [], _ :: _, h => h.elim
 | _ :: _, [], h => h.elim
theorem CRel.one {c : SC} {v : Value} (h : CRel ρ c v) : v.oneCell' = true := by
 cases c with
 | e x => obtain ⟨_, κ, _, k⟩ := h; exact k.one
 | p b off => obtain ⟨n, _, rfl⟩ := h; rfl
 | fn f caps => obtain ⟨vs, _, rfl⟩ := h; rfl
 | sl b off len cap => obtain ⟨n, _, rfl⟩ := h; rfl
 | le x => obtain ⟨κs, _, k⟩ := h; exact k.one
 | nl z => obtain ⟨p, rfl, _⟩ := h; rfl
 | ar n k => obtain ⟨A, L, _, _, _, _, _, _, _, rfl⟩ := h; rfl
 | pl x off => obtain ⟨κs, a, _, rfl, _⟩ := h; rfl
 | pa n sz i off => obtain ⟨A, g, j, _, _, _, _, rfl⟩ := h; rfl
 | np => cases h; rfl
theorem cells_one {v : Value} (h : v.oneCell' = true) : v.cells = #[v] := by cases v <;> first | rfl | (simp [Value.oneCell'] at h)
theorem PRel.cells {x : SP} {v : Value} (h : PRel ρ x v) : CsRel ρ x.cells v.cells.toList := by
 cases x with
 | c x => rw [cells_one (CRel.one h)]; exact ⟨h, trivial⟩
 | agg cs => obtain ⟨vs, rfl, k⟩ := h; simpa [Value.cells, SP.cells] using k
theorem CsRel.length : ∀ {cs : List SC} {vs : List Value}, CsRel ρ cs vs → cs.length = vs.length
 | [], [], _ => rfl
 | _ :: _, _ :: _, ⟨_, k⟩ => by simp [CsRel.length k]
 | [], _ :: _, h => h.elim
 | _ :: _, [], h => h.elim
theorem CsRel.get : ∀ {cs : List SC} {vs : List Value} {i : Nat} {c : SC}, CsRel ρ cs vs → cs[i]? = some c → ∃ v, vs[i]? = some v ∧ CRel ρ c v
 | [], [], _, _, _, h => by simp at h
 | c :: _, v :: _, 0, _, ⟨a, _⟩, h => ⟨v, by simp, by simp at h; exact h ▸ a⟩
 | _ :: _, _ :: _, i + 1, _, ⟨_, k⟩, h => by simpa using CsRel.get (i := i) k (by simpa using h)
 | [], _ :: _, _, _, h, _ => h.elim
 | _ :: _, [], _, _, h, _ => h.elim
theorem CsRel.drop : ∀ {cs : List SC} {vs : List Value} (n : Nat), CsRel ρ cs vs → CsRel ρ (cs.drop n) (vs.drop n)
 | [], [], _, _ => by simp [CsRel]
 | _ :: _, _ :: _, 0, h => h
 | _ :: _, _ :: _, n + 1, ⟨_, k⟩ => by simpa using CsRel.drop n k
 | [], _ :: _, _, h => h.elim
 | _ :: _, [], _, h => h.elim
theorem CsRel.take : ∀ {cs : List SC} {vs : List Value} (n : Nat), CsRel ρ cs vs → CsRel ρ (cs.take n) (vs.take n)
 | [], [], _, _ => by simp [CsRel]
 | _ :: _, _ :: _, 0, _ => by simp [CsRel]
 | _ :: _, _ :: _, n + 1, ⟨a, k⟩ => by simpa using ⟨a, CsRel.take n k⟩
 | [], _ :: _, _, h => h.elim
 | _ :: _, [], _, h => h.elim
theorem CsRel.set : ∀ {cs : List SC} {vs : List Value} {c : SC} {v : Value} (n : Nat), CsRel ρ cs vs → CRel ρ c v → CsRel ρ (cs.set n c) (vs.set n v)
 | [], [], _, _, _, _, _ => by simp [CsRel]
 | _ :: _, _ :: _, _, _, 0, ⟨_, k⟩, hc => by simpa using ⟨hc, k⟩
 | _ :: _, _ :: _, _, _, n + 1, ⟨a, k⟩, hc => by simpa using ⟨a, CsRel.set n k hc⟩
 | [], _ :: _, _, _, _, h, _ => h.elim
 | _ :: _, [], _, _, _, h, _ => h.elim
theorem CsRel.append : ∀ {cs : List SC} {vs : List Value} {ds : List SC} {us : List Value}, CsRel ρ cs vs → CsRel ρ ds us → CsRel ρ (cs ++ ds) (vs ++ us)
 | [], [], _, _, _, h => by simpa using h
 | _ :: _, _ :: _, _, _, ⟨a, k⟩, h => by simpa using ⟨a, CsRel.append k h⟩
 | [], _ :: _, _, _, h, _ => h.elim
 | _ :: _, [], _, _, h, _ => h.elim
theorem PsRel.get : ∀ {cs : List SP} {vs : List Value} {i : Nat} {c : SP}, PsRel ρ cs vs → cs[i]? = some c → ∃ v, vs[i]? = some v ∧ PRel ρ c v
 | [], [], _, _, _, h => by simp at h
 | c :: _, v :: _, 0, _, ⟨a, _⟩, h => ⟨v, by simp, by simp at h; exact h ▸ a⟩
 | _ :: _, _ :: _, i + 1, _, ⟨_, k⟩, h => by simpa using PsRel.get (i := i) k (by simpa using h)
 | [], _ :: _, _, _, h, _ => h.elim
 | _ :: _, [], _, _, h, _ => h.elim
theorem VsRel.get : ∀ {cs : List SV} {vs : List Value} {i : Nat} {c : SV}, VsRel ρ cs vs → cs[i]? = some c → ∃ v, vs[i]? = some v ∧ VRel ρ c v
 | [], [], _, _, _, h => by simp at h
 | c :: _, v :: _, 0, _, ⟨a, _⟩, h => ⟨v, by simp, by simp at h; exact h ▸ a⟩
 | _ :: _, _ :: _, i + 1, _, ⟨_, k⟩, h => by simpa using VsRel.get (i := i) k (by simpa using h)
 | [], _ :: _, _, _, h, _ => h.elim
 | _ :: _, [], _, _, h, _ => h.elim
theorem VsRel.length : ∀ {cs : List SV} {vs : List Value}, VsRel ρ cs vs → cs.length = vs.length
 | [], [], _ => rfl
 | _ :: _, _ :: _, ⟨_, k⟩ => by simp [VsRel.length k]
 | [], _ :: _, h => h.elim
 | _ :: _, [], h => h.elim
theorem VsRel.append : ∀ {cs : List SV} {vs : List Value} {ds : List SV} {us : List Value}, VsRel ρ cs vs → VsRel ρ ds us → VsRel ρ (cs ++ ds) (vs ++ us)
 | [], [], _, _, _, h => by simpa using h
 | _ :: _, _ :: _, _, _, ⟨a, k⟩, h => by simpa using ⟨a, VsRel.append k h⟩
 | [], _ :: _, _, _, h, _ => h.elim
 | _ :: _, [], _, _, h, _ => h.elim
theorem VsRel.set : ∀ {cs : List SV} {vs : List Value} {c : SV} {v : Value} (n : Nat), VsRel ρ cs vs → VRel ρ c v → VsRel ρ (cs.set n c) (vs.set n v)
 | [], [], _, _, _, _, _ => by simp [VsRel]
 | _ :: _, _ :: _, _, _, 0, ⟨_, k⟩, hc => by simpa using ⟨hc, k⟩
 | _ :: _, _ :: _, _, _, n + 1, ⟨a, k⟩, hc => by simpa using ⟨a, VsRel.set n k hc⟩
 | [], _ :: _, _, _, _, h, _ => h.elim
 | _ :: _, [], _, _, _, h, _ => h.elim
theorem undef_rel : VRel ρ undefS undef := ⟨[], rfl, trivial⟩
theorem VsRel.undefs : ∀ n, VsRel ρ (List.replicate n undefS) (List.replicate n undef)
 | 0 => trivial
 | n + 1 => ⟨undef_rel, VsRel.undefs n⟩
end
theorem ofCell_rel {ρ : Rho} {v : Value} {c : SC} (h : ofCell v = some c) : CRel ρ c v := by
 unfold ofCell at h
 split at h
 ·rename_i k n
  split at h
  ·rename_i hc
   simp at hc h
   subst h
   exact ⟨rfl, .i k, rfl, n, rfl, hc.1, hc.2⟩
  ·simp at h
 ·simp at h
 ·simp at h
 ·simp at h
  subst h
  exact ⟨none, rfl, fun _ => rfl⟩
 ·simp at h
  subst h
  rfl
 ·rename_i hi ha ht _ _
  simp at h
  subst h
  cases v <;> first
   | exact ⟨rfl, .b, rfl, _, rfl⟩
   | exact ⟨rfl, .s, rfl, _, rfl⟩
   | exact ⟨rfl, .o, rfl, rfl⟩
   | exact absurd rfl (hi _ _)
   | exact absurd rfl (ha _)
   | exact absurd rfl (ht _)
theorem ofCells_rel {ρ : Rho} : ∀ {vs : List Value} {cs : List SC}, ofCells vs = some cs → CsRel ρ cs vs
 | [], cs, h => by simp [ofCells] at h; subst h; trivial
 | v :: vs, cs, h => by
  simp only [ofCells] at h
  split at h
  ·rename_i c ds hc hd
   simp at h
   subst h
   exact ⟨ofCell_rel hc, ofCells_rel hd⟩
  ·simp at h
theorem ofConst_rel {ρ : Rho} {v : Value} {s : SV} (h : ofConst v = some s) : VRel ρ s v := by
 unfold ofConst at h
 split at h
 ·rename_i cs
  cases hc : ofCells cs.toList with
  | none => simp [hc] at h
  | some ds => simp [hc] at h; subst h; exact ⟨cs.toList, by simp, ofCells_rel hc⟩
 ·cases hc : ofCell v with
  | none => simp [hc] at h
  | some ds => simp [hc] at h; subst h; exact ofCell_rel hc
theorem den_bind {α β : Type} (t : Tree α) (k : α → Tree β) : (t.bind k).den = t.den.bind fun a => (k a).den := by
 induction t with
 | ret a => simp [Tree.bind, Tree.den]
 | ite c t f iht ihf => simp only [Tree.bind, Tree.den, iht, ihf]; cases tru c.den <;> rfl
 | fail => simp [Tree.bind, Tree.den]
theorem den_bind_some {α β : Type} {t : Tree α} {k : α → Tree β} {b : β} (h : (t.bind k).den = some b) : ∃ a, t.den = some a ∧ (k a).den = some b := by
 rw [den_bind] at h
 cases ht : t.den with
 | none => simp [ht] at h
 | some a => exact ⟨a, rfl, by simpa [ht] using h⟩
theorem eqIK {k k' : IntKind} (h : binEqIK k k' = true) : k' = k := by cases k <;> cases k' <;> first | rfl | simp [binEqIK] at h
mutual
theorem eqSK_eq : ∀ {k k' : SK}, eqSK k k' = true → k' = k
 | .i _, .i _, h => by simp only [eqSK] at h; rw [eqIK h]
 | .b, .b, _ => rfl
 | .s, .s, _ => rfl
 | .o, .o, _ => rfl
 | .l a, .l b, h => by simp only [eqSK] at h; rw [eqSKs_eq h]
 | .q a, .q b, h => by simp only [eqSK] at h; rw [eqSKs_eq h]
 | .f n a, .f m b, h => by
  simp only [eqSK, Bool.and_eq_true] at h
  rw [eqSKs_eq h.2, show n = m from Nat.eq_of_beq_eq_true h.1]
 | .i _, .b, h => by simp [eqSK] at h
 | .i _, .s, h => by simp [eqSK] at h
 | .i _, .o, h => by simp [eqSK] at h
 | .i _, .l _, h => by simp [eqSK] at h
 | .i _, .q _, h => by simp [eqSK] at h
 | .i _, .f _ _, h => by simp [eqSK] at h
 | .b, .i _, h => by simp [eqSK] at h
 | .b, .s, h => by simp [eqSK] at h
 | .b, .o, h => by simp [eqSK] at h
 | .b, .l _, h => by simp [eqSK] at h
 | .b, .q _, h => by simp [eqSK] at h
 | .b, .f _ _, h => by simp [eqSK] at h
 | .s, .i _, h => by simp [eqSK] at h
 | .s, .b, h => by simp [eqSK] at h
 | .s, .o, h => by simp [eqSK] at h
 | .s, .l _, h => by simp [eqSK] at h
 | .s, .q _, h => by simp [eqSK] at h
 | .s, .f _ _, h => by simp [eqSK] at h
 | .o, .i _, h => by simp [eqSK] at h
 | .o, .b, h => by simp [eqSK] at h
 | .o, .s, h => by simp [eqSK] at h
 | .o, .l _, h => by simp [eqSK] at h
 | .o, .q _, h => by simp [eqSK] at h
 | .o, .f _ _, h => by simp [eqSK] at h
 | .l _, .i _, h => by simp [eqSK] at h
 | .l _, .b, h => by simp [eqSK] at h
 | .l _, .s, h => by simp [eqSK] at h
 | .l _, .o, h => by simp [eqSK] at h
 | .l _, .q _, h => by simp [eqSK] at h
 | .l _, .f _ _, h => by simp [eqSK] at h
 | .q _, .i _, h => by simp [eqSK] at h
 | .q _, .b, h => by simp [eqSK] at h
 | .q _, .s, h => by simp [eqSK] at h
 | .q _, .o, h => by simp [eqSK] at h
 | .q _, .l _, h => by simp [eqSK] at h
 | .q _, .f _ _, h => by simp [eqSK] at h
 | .f _ _, .i _, h => by simp [eqSK] at h
 | .f _ _, .b, h => by simp [eqSK] at h
 | .f _ _, .s, h => by simp [eqSK] at h
 | .f _ _, .o, h => by simp [eqSK] at h
 | .f _ _, .l _, h => by simp [eqSK] at h
 | .f _ _, .q _, h => by simp [eqSK] at h
theorem eqSKs_eq : ∀ {k k' : List SK}, eqSKs k k' = true → k' = k
 | [], [], _ => rfl
 | _ :: _, _ :: _, h => by
  simp only [eqSKs, Bool.and_eq_true] at h
  rw [eqSK_eq h.1, eqSKs_eq h.2]
 | [], _ :: _, h => by simp [eqSKs] at h
 | _ :: _, [], h => by simp [eqSKs] at h
end
theorem tmod_within (k : IntKind) (x y : Int) (h0 : k.min ≤ x) (h1 : x ≤ k.max) : k.min ≤ x.tmod y ∧ x.tmod y ≤ k.max := by
 have hm : k.min ≤ 0 := by cases k <;> decide
 have hM : 0 ≤ k.max := by cases k <;> decide
 have e := Int.natAbs_tmod x y
 have l := Nat.mod_le x.natAbs y.natAbs
 rcases Int.le_total 0 x with h | h
 ·have a := Int.tmod_nonneg y h
  omega
 ·have e2 : x.tmod y = -((-x).tmod y) := by rw [Int.neg_tmod]; omega
  have a := Int.tmod_nonneg y (a := -x) (by omega)
  omega
theorem fdiv_within (k : IntKind) (x : Int) (n : Nat) (h0 : k.min ≤ x) (h1 : x ≤ k.max) : k.min ≤ x.fdiv (2 ^ n) ∧ x.fdiv (2 ^ n) ≤ k.max := by
 have hm : k.min ≤ 0 := by cases k <;> decide
 have hM : 0 ≤ k.max := by cases k <;> decide
 have hp : (0 : Int) < 2 ^ n := Int.pow_pos (by decide)
 rw [Int.fdiv_eq_ediv_of_nonneg _ (by omega)]
 generalize hq : (2 : Int) ^ n = q at hp
 have e := Int.mul_ediv_add_emod x q
 have r0 := Int.emod_nonneg x (show q ≠ 0 by omega)
 have r1 := Int.emod_lt_of_pos x hp
 rcases Int.le_total 0 x with h | h
 ·have a : 0 ≤ x / q := Int.ediv_nonneg h (by omega)
  have b : x / q ≤ x := Int.ediv_le_self _ h
  omega
 ·have a : x / q ≤ 0 := Int.ediv_nonpos_of_nonpos_of_neg h hp
  have b : x ≤ x / q := by
   have : q * (x / q) ≤ x / q := by
    have : 0 ≤ (q - 1) * (-(x / q)) := Int.mul_nonneg (by omega) (by omega)
    have h2 : (q - 1) * (-(x / q)) = -(q * (x / q)) + x / q := by rw [Int.sub_mul, Int.mul_neg, Int.one_mul]; omega
    omega
   have := Int.le_ediv_of_mul_le hp (show x * q ≤ x by
    have : 0 ≤ (q - 1) * (-x) := Int.mul_nonneg (by omega) (by omega)
    have h2 : (q - 1) * (-x) = -(x * q) + x := by rw [Int.sub_mul, Int.mul_neg, Int.one_mul, Int.mul_comm q x]; omega
    omega)
   exact this
  omega
theorem binI_within (op : BinOp) (k : IntKind) (x y : Int) (h0 : k.min ≤ x) (h1 : x ≤ k.max) : k.min ≤ binI op k x y ∧ binI op k x y ≤ k.max := by
 have hm : k.min ≤ 0 := by cases k <;> decide
 have hM : 0 ≤ k.max := by cases k <;> decide
 cases op <;> simp only [binI] <;> first
  | exact wrap_within k _
  | exact bits_within _ k _ _
  | exact tmod_within k x y h0 h1
  | exact fdiv_within k x _ h0 h1
  | exact ⟨hm, hM⟩
theorem wrap_in (k : IntKind) (x : Int) (h0 : k.min ≤ x) (h1 : x ≤ k.max) : k.wrap x = x := by
 cases k <;> simp [IntKind.min, IntKind.max, IntKind.bits, IntKind.signed] at h0 h1 <;> simp [IntKind.wrap, IntKind.bits, IntKind.signed] <;> (try split) <;> omega
theorem widens_spec {j k : IntKind} (h : widens j k = true) : k.min ≤ j.min ∧ j.max ≤ k.max := by
 simpa [widens] using h
theorem erel_int {ρ : Rho} {a : SE} {v : Value} {k : IntKind} (h : CRel ρ (.e a) v) (hk : a.kind = some (.i k)) : ∃ n, v = .int k n ∧ a.den = .int k n ∧ k.min ≤ n ∧ n ≤ k.max := by
 obtain ⟨hd, κ, hκ, hi⟩ := h
 rw [hk] at hκ
 cases hκ
 obtain ⟨n, rfl, a, b⟩ := hi
 exact ⟨n, rfl, hd.symm, a, b⟩
theorem erel_bool {ρ : Rho} {a : SE} {v : Value} (h : CRel ρ (.e a) v) (hk : a.kind = some .b) : ∃ t, v = .bool t ∧ a.den = .bool t := by
 obtain ⟨hd, κ, hκ, hi⟩ := h
 rw [hk] at hκ
 cases hκ
 obtain ⟨n, rfl⟩ := hi
 exact ⟨n, rfl, hd.symm⟩
theorem erel_str {ρ : Rho} {a : SE} {v : Value} (h : CRel ρ (.e a) v) (hk : a.kind = some .s) : ∃ t, v = .string t ∧ a.den = .string t := by
 obtain ⟨hd, κ, hκ, hi⟩ := h
 rw [hk] at hκ
 cases hκ
 obtain ⟨n, rfl⟩ := hi
 exact ⟨n, rfl, hd.symm⟩
theorem eqBs_eq : ∀ (a b : List UInt8), eqBs a b = (a == b)
 | [], [] => rfl
 | [], _ :: _ => rfl
 | _ :: _, [] => rfl
 | a :: x, b :: y => by
  have e : Nat.beq a.toNat b.toNat = (a == b) := by
   rw [Bool.eq_iff_iff]
   simp [UInt8.toNat_inj]
  simp only [eqBs, e, eqBs_eq x y]
  rfl
theorem eqStr_eq (a b : ByteArray) : eqStr a b = (a.toList == b.toList) := by
 rw [ByteArray.toList_eq, ByteArray.toList_eq]
 exact eqBs_eq _ _
section
variable {ρ : Rho}
theorem mkBin_rel (op : BinOp) {k k' : IntKind} {a b : SE} {x y : Int} (da : a.den = .int k x) (db : b.den = .int k' y) (h0 : k.min ≤ x) (h1 : x ≤ k.max) : CRel ρ (.e (mkBin op k a b)) (.int k (binI op k x y)) := by
 have w := binI_within op k x y h0 h1
 unfold mkBin
 split
 ·simp [SE.den] at da db
  obtain ⟨_, rfl⟩ := da
  obtain ⟨_, rfl⟩ := db
  exact ⟨rfl, .i k, rfl, _, rfl, w⟩
 ·exact ⟨by simp [SE.den, da, db, num], .i k, rfl, _, rfl, w⟩
theorem mkCmp_rel (op : BinOp) {k k' : IntKind} {a b : SE} {x y : Int} (da : a.den = .int k x) (db : b.den = .int k' y) : CRel ρ (.e (mkCmp op a b)) (.bool (cmpB op x y)) := by
 unfold mkCmp
 split
 ·simp [SE.den] at da db
  obtain ⟨_, rfl⟩ := da
  obtain ⟨_, rfl⟩ := db
  exact ⟨rfl, .b, rfl, _, rfl⟩
 ·exact ⟨by simp [SE.den, da, db, num], .b, rfl, _, rfl⟩
theorem mkBeq_rel {a b : SE} {x y : Bool} (da : a.den = .bool x) (db : b.den = .bool y) : CRel ρ (.e (mkBeq a b)) (.bool (x == y)) := by
 unfold mkBeq
 split
 ·simp [SE.den] at da db
  subst da db
  exact ⟨rfl, .b, rfl, _, rfl⟩
 ·exact ⟨by simp [SE.den, da, db, tru], .b, rfl, _, rfl⟩
theorem mkSeq_rel {a b : SE} {x y : ByteArray} (da : a.den = .string x) (db : b.den = .string y) : CRel ρ (.e (mkSeq a b)) (.bool (eqStr x y)) := by
 unfold mkSeq
 split
 ·simp [SE.den] at da db
  subst da db
  exact ⟨rfl, .b, rfl, _, rfl⟩
 ·exact ⟨by simp [SE.den, da, db, str], .b, rfl, _, rfl⟩
theorem mkNeg_rel {a : SE} {x : Bool} (da : a.den = .bool x) : CRel ρ (.e (mkNeg a)) (.bool (!x)) := by
 unfold mkNeg
 split
 ·simp [SE.den] at da
  subst da
  exact ⟨rfl, .b, rfl, _, rfl⟩
 ·exact ⟨by simp [SE.den, da, tru], .b, rfl, _, rfl⟩
theorem mkCon_rel {a b : SE} {x y : Bool} (da : CRel ρ (.e a) (.bool x)) (db : CRel ρ (.e b) (.bool y)) : CRel ρ (.e (mkCon a b)) (.bool (x && y)) := by
 unfold mkCon
 split
 ·have := da.1; simp [SE.den] at this; subst this; simpa using db
 ·have := da.1; simp [SE.den] at this; subst this; simpa using da
 ·have := db.1; simp [SE.den] at this; subst this; simpa using da
 ·exact ⟨by simp [SE.den, ← da.1, ← db.1, tru], .b, rfl, _, rfl⟩
theorem mkCv_rel (k : IntKind) {j : IntKind} {a : SE} {x : Int} (da : a.den = .int j x) (h0 : j.min ≤ x) (h1 : x ≤ j.max) : CRel ρ (.e (mkCv k j a)) (.int k (k.wrap x)) := by
 have w := wrap_within k x
 unfold mkCv
 split
 ·simp [SE.den] at da
  obtain ⟨_, rfl⟩ := da
  exact ⟨rfl, .i k, rfl, _, rfl, w⟩
 ·split
  ·rename_i hw
   obtain ⟨a0, a1⟩ := widens_spec hw
   have e : k.wrap x = x := wrap_in k x (by omega) (by omega)
   rw [e]
   exact ⟨by simp [SE.den, da, num], .i k, rfl, _, rfl, by omega, by omega⟩
  ·exact ⟨by simp [SE.den, da, num], .i k, rfl, _, rfl, w⟩
theorem mkMn_rel {k k' : IntKind} {a b : SE} {x y : Int} (da : a.den = .int k x) (db : b.den = .int k' y) (h0 : k.min ≤ x) (h1 : x ≤ k.max) (h2 : k.min ≤ y) (h3 : y ≤ k.max) :
 CRel ρ (.e (mkMn k a b)) (.int k (if y < x then y else x)) := by
 have w : k.min ≤ (if y < x then y else x) ∧ (if y < x then y else x) ≤ k.max := by split <;> omega
 unfold mkMn
 split
 ·simp [SE.den] at da db
  obtain ⟨_, rfl⟩ := da
  obtain ⟨_, rfl⟩ := db
  exact ⟨rfl, .i k, rfl, _, rfl, w⟩
 ·exact ⟨by simp [SE.den, da, db, num], .i k, rfl, _, rfl, w⟩
theorem mkMx_rel {k k' : IntKind} {a b : SE} {x y : Int} (da : a.den = .int k x) (db : b.den = .int k' y) (h0 : k.min ≤ x) (h1 : x ≤ k.max) (h2 : k.min ≤ y) (h3 : y ≤ k.max) :
 CRel ρ (.e (mkMx k a b)) (.int k (if y > x then y else x)) := by
 have w : k.min ≤ (if y > x then y else x) ∧ (if y > x then y else x) ≤ k.max := by split <;> omega
 unfold mkMx
 split
 ·simp [SE.den] at da db
  obtain ⟨_, rfl⟩ := da
  obtain ⟨_, rfl⟩ := db
  exact ⟨rfl, .i k, rfl, _, rfl, w⟩
 ·exact ⟨by simp [SE.den, da, db, num], .i k, rfl, _, rfl, w⟩
end
end Go.Proofs.YtdioaiepkhepaaaGreatDoor
namespace Go.Proofs.YtdioaiepkhepaaaGreatDoor
open Go.RowKit
structure Foot where
 base : Nat
 X : Nat → Prop
def Foot.has (B : Foot) (x : Nat) : Prop := B.base ≤ x ∨ B.X x
structure BelowF (B : Foot) (w w' : World) : Prop where
 os : w'.os = w.os
 tape : w'.tape = w.tape
 output : w'.output = w.output
 size : w.heap.size ≤ w'.heap.size
 block : ∀ k, ¬ B.has k → w'.heap[k]? = w.heap[k]?
theorem BelowF.refl (B : Foot) (w : World) : BelowF B w w := ⟨rfl, rfl, rfl, Nat.le_refl _, fun _ _ => rfl⟩
theorem BelowF.trans {B : Foot} {a b c : World} (h : BelowF B a b) (k : BelowF B b c) : BelowF B a c :=
 ⟨k.os.trans h.os, k.tape.trans h.tape, k.output.trans h.output, Nat.le_trans h.size k.size, fun i hi => (k.block i hi).trans (h.block i hi)⟩
theorem BelowF.of {B : Foot} {w w' : World} (h : Below w.heap.size w w') (hB : B.base ≤ w.heap.size) : BelowF B w w' :=
 ⟨h.os, h.tape, h.output, h.size, fun k hk => h.block k (by rcases Nat.lt_or_ge k w.heap.size with q | q; exact q; exact absurd (.inl (Nat.le_trans hB q)) hk)⟩
theorem BelowF.alloc {B : Foot} {a w : World} (h : BelowF B a w) (hB : B.base ≤ w.heap.size) (o : Obj) : BelowF B a (w.alloc o) :=
 h.trans (.of (Below.alloc (Below.refl _ _) (Nat.le_refl _) o) hB)
theorem BelowF.grown {B : Foot} {w w' : World} {row : Option Nat} (hg : w.grownBy w' row) (hB : B.base ≤ w.heap.size) (hr : ∀ k, row = some k → B.has k) : BelowF B w w' :=
 ⟨hg.os, hg.tape, hg.output, hg.size, fun k hk => hg.block k (by rcases Nat.lt_or_ge k w.heap.size with q | q; exact q; exact absurd (.inl (Nat.le_trans hB q)) hk) (fun e => hk (hr k e.symm))⟩
def newFoot (w : World) : Foot := ⟨w.heap.size, fun _ => False⟩
theorem BelowF.below {w w' : World} (h : BelowF (newFoot w) w w') : Below w.heap.size w w' :=
 ⟨h.os, h.tape, h.output, h.size, fun k hk => h.block k (fun q => by rcases q with q | q; exact absurd q (Nat.not_le_of_lt hk); exact q)⟩
structure HRel (B : Foot) (ρ : Rho) (H : List (Nat × Blk)) (w : World) : Prop where
 lt : ∀ n x, ρ n = some x → x < w.heap.size
 inj : ∀ n m x, ρ n = some x → ρ m = some x → n = m
 blk : ∀ n b x, find H n = some b → ρ n = some x → (b.own = true → B.has x) ∧ ∃ vs : List Value, w.heap[x]? = some (.cells vs.toArray b.elem (0, 0)) ∧ CsRel ρ b.cells vs
section
variable {P : Program} {w : World}
theorem run_size {t n : Nat} (h : sizeT P t = some n) : (sizeOf t).run P w = .ok n w := by
 unfold sizeT at h
 cases hi : P.info? t with
 | none => simp [hi] at h
 | some i => simp [hi] at h; subst h; simp [sizeOf, typeInfo, hi]
theorem run_agg {t : Nat} {b : Bool} (h : aggT P t = some b) : (isAgg t).run P w = .ok b w := by
 unfold aggT at h
 cases hu : P.underlying t with
 | none => simp [hu] at h
 | some d =>
  simp only [isAgg, Sem.run_bind, run_underlying hu, Result.andThen_ok]
  cases d <;> simp [hu] at h <;> subst h <;> rfl
theorem run_zero {t : Nat} {v : Value} (h : (P.info? t).bind (·.zero) = some v) : (zeroValue t).run P w = .ok v w := by
 cases hi : P.info? t with
 | none => simp [hi] at h
 | some i =>
  simp [hi] at h
  simp [zeroValue, typeInfo, hi, h]
theorem beq_len {n m : Nat} (h : Nat.beq n m = true) : n = m := Nat.eq_of_beq_eq_true h
theorem takeC_spec {cs r : List SC} {off n : Nat} (h : takeC cs off n = some r) : r = (cs.drop off).take n ∧ r.length = n := by
 simp only [takeC] at h
 split at h
 ·rename_i hb
  simp at h
  exact ⟨h.symm, by rw [← h]; exact beq_len hb⟩
 ·simp at h
theorem run_part {ρ : Rho} {t off : Nat} {cs : List SC} {vs : List Value} {p : SP} (h : partS P t cs off = some p) (hr : CsRel ρ cs vs) :
 ∃ v, (Go.part t vs.toArray off).run P w = .ok v w ∧ PRel ρ p v := by
 unfold partS at h
 cases ha : aggT P t with
 | none => simp [ha] at h
 | some b =>
  cases b with
  | true =>
   cases hs : sizeT P t with
   | none => simp [ha, hs] at h
   | some n =>
    simp only [ha, hs] at h
    cases ht : takeC cs off n with
    | none => simp [ht] at h
    | some r =>
     simp [ht] at h
     subst h
     obtain ⟨rfl, _⟩ := takeC_spec ht
     refine ⟨.agg ((vs.drop off).take n).toArray, ?_, (vs.drop off).take n, rfl, (hr.drop off).take n⟩
     simp only [Go.part, Sem.run_bind, run_agg ha, run_size hs, Result.andThen_ok, if_true, Sem.run_pure]
     congr 2
     simp
  | false =>
   simp only [ha] at h
   cases hc : cs[off]? with
   | none => simp [hc] at h
   | some c =>
    simp [hc] at h
    subst h
    obtain ⟨v, hv, hcr⟩ := hr.get hc
    refine ⟨v, ?_, hcr⟩
    simp [Go.part, run_agg ha, hv]
theorem cell_of {x off : Nat} {vs : List Value} {t : TypeId} {fr : Nat × Nat} (h : w.heap[x]? = some (.cells vs.toArray t fr)) : w.cell? ⟨x, off, none⟩ = vs[off]? := by
 simp [World.cell?, h]
theorem addr_add (b o n : Nat) : Addr.add ⟨b, o, none⟩ n = ⟨b, o + n, none⟩ := by
 unfold Addr.add
 split
 ·rename_i h; subst h; rfl
 ·rfl
theorem run_loadVar {B : Foot} {ρ : Rho} {H : List (Nat × Blk)} {t n x off : Nat} {b : Blk} {p : SP} (hH : HRel B ρ H w) (hb : find H n = some b) (hx : ρ n = some x) (h : partS P t b.cells off = some p) :
 ∃ v, (loadVar t ⟨x, off, none⟩).run P w = .ok v w ∧ PRel ρ p v := by
 obtain ⟨_, vs, hcell, hr⟩ := hH.blk n b x hb hx
 unfold partS at h
 cases ha : aggT P t with
 | none => simp [ha] at h
 | some g =>
  cases g with
  | true =>
   cases hs : sizeT P t with
   | none => simp [ha, hs] at h
   | some n =>
    simp only [ha, hs] at h
    cases ht : takeC b.cells off n with
    | none => simp [ht] at h
    | some r =>
     simp [ht] at h
     subst h
     obtain ⟨hr', hlen⟩ := takeC_spec ht
     have hl : ((vs.drop off).take n).length = n := by
      have := ((hr.drop off).take n).length
      rw [← this, ← hr', hlen]
     refine ⟨.agg ((vs.drop off).take n).toArray, ?_, (vs.drop off).take n, rfl, by rw [hr']; exact (hr.drop off).take n⟩
     have hld := run_loadCells_list (P := P) w ⟨x, off, none⟩ ((vs.drop off).take n) (fun j v hj => by
      rw [addr_add, cell_of hcell]
      rw [List.getElem?_take] at hj
      split at hj
      ·rw [List.getElem?_drop] at hj; exact hj
      ·simp at hj)
     rw [hl] at hld
     simp only [loadVar, Sem.run_bind, run_agg ha, run_size hs, Result.andThen_ok, if_true, Sem.run_pure, hld]
  | false =>
   simp only [ha] at h
   cases hc : b.cells[off]? with
   | none => simp [hc] at h
   | some c =>
    simp [hc] at h
    subst h
    obtain ⟨v, hv, hcr⟩ := hr.get hc
    refine ⟨v, ?_, hcr⟩
    simp [loadVar, run_agg ha, cell_of hcell, hv]
theorem putV_length : ∀ (new cs : List Value) (off : Nat), (putV cs off new).length = cs.length
 | [], _, _ => rfl
 | _ :: new, _, _ => by simp [putV, putV_length new]
theorem put_rel {ρ : Rho} : ∀ {new : List SC} {us : List Value} {cs : List SC} {vs : List Value} (off : Nat), CsRel ρ cs vs → CsRel ρ new us → CsRel ρ (putC cs off new) (putV vs off us)
 | [], [], _, _, _, h, _ => h
 | _ :: _, _ :: _, _, _, off, h, ⟨a, k⟩ => put_rel (off + 1) (h.set off a) k
 | [], _ :: _, _, _, _, _, h => h.elim
 | _ :: _, [], _, _, _, _, h => h.elim
theorem CsRel.ones {ρ : Rho} : ∀ {cs : List SC} {vs : List Value}, CsRel ρ cs vs → ∀ v ∈ vs, v.oneCell' = true
 | [], [], _, _, h => by simp at h
 | _ :: _, _ :: _, ⟨a, k⟩, v, h => by
  rcases List.mem_cons.1 h with rfl | h
  ·exact a.one
  ·exact CsRel.ones k v h
 | [], _ :: _, h, _, _ => h.elim
 | _ :: _, [], h, _, _ => h.elim
theorem setCell_heap (w : World) (x o : Nat) (vs : List Value) (t : TypeId) (v : Value) (h : w.heap[x]? = some (.cells vs.toArray t (0, 0))) :
 (w.setCell ⟨x, o, none⟩ v).heap[x]? = some (.cells (vs.set o v).toArray t (0, 0)) := by
 have hlt : x < w.heap.size := (Array.getElem?_eq_some_iff.1 h).1
 simp only [World.setCell, Array.getElem?_modify, if_true, h, Option.map_some]
 simp
theorem run_storeCells (x off : Nat) (t : TypeId) : ∀ (new : List Value) (i : Nat) (w : World) (vs : List Value), w.heap[x]? = some (.cells vs.toArray t (0, 0)) → off + i + new.length ≤ vs.length → (∀ v ∈ new, v.oneCell' = true) →
 ∃ w', (storeCells ⟨x, off, none⟩ new i).run P w = .ok () w' ∧ w'.heap[x]? = some (.cells (putV vs (off + i) new).toArray t (0, 0)) ∧ (∀ y, y ≠ x → w'.heap[y]? = w.heap[y]?) ∧ w'.heap.size = w.heap.size ∧ w'.os = w.os ∧ w'.tape = w.tape ∧ w'.output = w.output
 | [], i, w, vs, h, _, _ => ⟨w, by simp [storeCells], h, fun _ _ => rfl, rfl, rfl, rfl, rfl⟩
 | v :: new, i, w, vs, h, hl, ho => by
  simp only [List.length_cons] at hl
  have hone := ho v (by simp)
  obtain ⟨w', h1, h2, h3, h4, h5, h6, h7⟩ := run_storeCells x off t new (i + 1) (w.setCell ⟨x, off + i, none⟩ v) (vs.set (off + i) v) (setCell_heap w x (off + i) vs t v h) (by simp; omega) (fun u hu => ho u (by simp [hu]))
  refine ⟨w', ?_, ?_, fun y hy => ?_, ?_, h5, h6, h7⟩
  ·have hc : w.cell? ⟨x, off + i, none⟩ = some (vs[off + i]'(by omega)) := by rw [cell_of h]; exact List.getElem?_eq_getElem (by omega)
   have hf : w.frozen? ⟨x, off + i, none⟩ = false := by simp [World.frozen?, h]
   simp only [storeCells, Sem.run_bind, addr_add, run_store P w _ v _ hone, hc, hf]
   exact h1
  ·rw [h2]; rfl
  ·rw [h3 y hy]; simp only [World.setCell, Array.getElem?_modify]; rw [if_neg (fun e => hy e.symm)]
  ·rw [h4]; simp [World.setCell]
theorem find_upd : ∀ (H : List (Nat × Blk)) (n m : Nat) (cs : List SC) (b : Blk), find (upd H n cs) m = some b → (m = n ∧ ∃ b0, find H n = some b0 ∧ b = { b0 with cells := cs }) ∨ (m ≠ n ∧ find H m = some b)
 | [], _, _, _, _, h => by simp [upd, find] at h
 | (k, x) :: H, n, m, cs, b, h => by
  simp only [upd] at h
  cases hkn : Nat.beq k n with
  | true =>
   have ekn := beq_len hkn
   subst ekn
   simp only [hkn, if_true, find] at h ⊢
   cases hkm : Nat.beq k m with
   | true =>
    have ekm := beq_len hkm
    subst ekm
    simp only [hkm, if_true] at h
    simp at h
    exact .inl ⟨rfl, x, rfl, h.symm⟩
   | false =>
    simp only [hkm] at h
    exact .inr ⟨fun e => by subst e; rw [hkn] at hkm; exact Bool.noConfusion hkm, by simpa using h⟩
  | false =>
   simp only [hkn] at h
   simp only [find] at h ⊢
   cases hkm : Nat.beq k m with
   | true =>
    have ekm := beq_len hkm
    subst ekm
    simp only [Bool.false_eq_true, if_false, find, hkm, if_true] at h
    refine .inr ⟨fun e => by subst e; rw [hkn] at hkm; exact Bool.noConfusion hkm, by simpa using h⟩
   | false =>
    simp only [Bool.false_eq_true, if_false, find, hkm] at h
    simpa [hkn] using find_upd H n m cs b h
theorem HRel.store {B : Foot} {ρ : Rho} {H : List (Nat × Blk)} {n x : Nat} {b : Blk} {off : Nat} {new : List SC} {us : List Value} (hH : HRel B ρ H w) (hb : find H n = some b) (hx : ρ n = some x) (ho : b.own = true)
 (hl : off + new.length ≤ b.cells.length) (hn : CsRel ρ new us) : ∃ w', (storeCells ⟨x, off, none⟩ us).run P w = .ok () w' ∧ HRel B ρ (upd H n (putC b.cells off new)) w' ∧ BelowF B w w' ∧ w'.heap.size = w.heap.size ∧ ∀ y, y ≠ x → w'.heap[y]? = w.heap[y]? := by
 obtain ⟨hB, vs, hcell, hr⟩ := hH.blk n b x hb hx
 have l1 := hr.length
 have l2 := hn.length
 obtain ⟨w', h1, h2, h3, h4, h5, h6, h7⟩ := run_storeCells (P := P) x off b.elem us 0 w vs hcell (by omega) hn.ones
 refine ⟨w', h1, ⟨fun n x h => by rw [h4]; exact hH.lt n x h, hH.inj, fun m c y hm hy => ?_⟩, ⟨h5, h6, h7, by omega, fun k hk => h3 k (fun e => by subst e; exact hk (hB ho))⟩, h4, h3⟩
 rcases find_upd H n m _ c hm with ⟨rfl, b0, hb0, rfl⟩ | ⟨hne, hm'⟩
 ·rw [hb] at hb0
  cases hb0
  rw [hx] at hy
  cases hy
  exact ⟨hB, _, h2, put_rel off hr hn⟩
 ·obtain ⟨q0, q1, q2, q3⟩ := hH.blk m c y hm' hy
  refine ⟨q0, q1, ?_, q3⟩
  rw [h3 y (fun e => hne (hH.inj m n y hy (by rw [hx, e])))]
  exact q2
end
end Go.Proofs.YtdioaiepkhepaaaGreatDoor
namespace Go.Proofs.YtdioaiepkhepaaaGreatDoor
open Go.RowKit
def Flat (κs : List SK) : List Value → List Value → Prop
 | us, [] => us = []
 | us, e :: es => ∃ cs r : List Value, us = cs ++ r ∧ e = .agg cs.toArray ∧ KindsL κs cs ∧ Flat κs r es
def ArrOK (κs : List SK) (c : SE) (t : TypeId) (A : ArrV) (w : World) : Prop :=
 ∃ es us : List Value, c.kind = some (.l κs) ∧ κs.all isPl = true ∧ c.den = .agg es.toArray ∧ es.length = A.len ∧ (A.g = none → A.cap = 0) ∧ A.len ≤ A.cap ∧ A.cap ≤ maxLen ∧ Flat κs us es ∧
  w.ownsRow 0 t κs.length (.slice (A.g.map fun g => ⟨g, 0, none⟩) A.len A.cap) A.len us
def rowOf (ρ : Rho) (old : Option Nat) : Option Nat := match old with
 | some n => match ρ.a n with
  | some A => A.g
  | none => none
 | none => none
structure XRel (B : Foot) (ρ : Rho) (H : List (Nat × Blk)) (w : World) : Prop where
 mem : ∀ a v, ρ.m a = some v → w.cell? a = some v
 off : ∀ n b x, find H n = some b → ρ n = some x → ∀ a : Addr, a.block = x → ρ.m a = none
 arr : ∀ n b κs c A, find H n = some b → b.arr = some (κs, c) → ρ.a n = some A → ArrOK κs c b.elem A w
 offa : ∀ n b A g, find H n = some b → b.arr ≠ none → ρ.a n = some A → A.g = some g → (b.own = true → B.has g) ∧ (∀ a : Addr, a.block = g → ρ.m a = none) ∧ ∀ m y, ρ m = some y → y ≠ g
 has : ∀ n b, find H n = some b → (b.arr ≠ none → ∃ A, ρ.a n = some A) ∧ (b.arr = none → ∃ x, ρ n = some x)
 inja : ∀ n n' b b' A A' g, find H n = some b → find H n' = some b' → b.arr ≠ none → b'.arr ≠ none → ρ.a n = some A → ρ.a n' = some A' → A.g = some g → A'.g = some g → n = n'
section
variable {P : Program} {w : World} {ρ : Rho}
def Eff (P : Program) (B : Foot) (ρ : Rho) (H : List (Nat × Blk)) (w : World) (s : Sem Next) : Res → Prop
 | .val sv => ∃ v, s.run P w = .ok (.value v) w ∧ VRel ρ sv v
 | .blk cs t => ∃ vs : List Value, s.run P w = .ok (.value (.pointer (some ⟨w.heap.size, 0, none⟩))) (w.alloc (.cells vs.toArray t)) ∧ CsRel ρ cs vs
 | .sl cs t len => ∃ vs : List Value, s.run P w = .ok (.value (.slice (some ⟨w.heap.size, 0, none⟩) len len)) (w.alloc (.cells vs.toArray t)) ∧ CsRel ρ cs vs
 | .arr old c κs t => ∃ A w', s.run P w = .ok (.value (.slice (A.g.map fun g => ⟨g, 0, none⟩) A.len A.cap)) w' ∧ ArrOK κs c t A w' ∧ w.grownBy w' (rowOf ρ old) ∧ (∀ g, A.g = some g → w.heap.size ≤ g ∨ rowOf ρ old = some g) ∧ ∀ n, old = some n → ∃ b, find H n = some b ∧ b.arr ≠ none ∧ b.own = true
 | .sta n c κs => ∃ w' A g b, s.run P w = .ok .skip w' ∧ ρ.a n = some A ∧ A.g = some g ∧ find H n = some b ∧ b.arr ≠ none ∧ b.own = true ∧ ArrOK κs c b.elem A w' ∧ w.grownBy w' (some g) ∧ w'.heap.size = w.heap.size
 | .st n cs off new => ∃ w', s.run P w = .ok .skip w' ∧ HRel B ρ (upd H n (putC cs off new)) w' ∧ BelowF B w w' ∧ w'.heap.size = w.heap.size ∧ ∃ x b, ρ n = some x ∧ find H n = some b ∧ ∀ y, y ≠ x → w'.heap[y]? = w.heap[y]?
theorem vE_some {x : SE} {r : Res} (h : (vE x).den = some r) : r = .val (.p (.c (.e x))) := by simp [vE, Tree.den] at h; exact h.symm
theorem run_shift (op : BinOp) (hop : op = .shl ∨ op = .shr) (t : TypeId) (k k' : IntKind) (x y : Int) (hy : 0 ≤ y) : (binOp op t (.int k x) (.int k' y)).run P w = .ok (.int k (binI op k x y)) w := by
 rcases hop with rfl | rfl <;> simp [binOp, Op.shift, binI, show ¬ y < 0 by omega]
theorem run_arith (op : BinOp) (hop : op = .add ∨ op = .sub ∨ op = .mul ∨ op = .and ∨ op = .or ∨ op = .xor ∨ op = .andNot) (t : TypeId) (k : IntKind) (x y : Int) : (binOp op t (.int k x) (.int k y)).run P w = .ok (.int k (binI op k x y)) w := by
 rcases hop with rfl | rfl | rfl | rfl | rfl | rfl | rfl <;> simp [binOp, Op.intArith, Op.intBits, binI, bits]
theorem run_div (op : BinOp) (hop : op = .quo ∨ op = .rem) (t : TypeId) (k : IntKind) (x y : Int) (hy : y ≠ 0) : (binOp op t (.int k x) (.int k y)).run P w = .ok (.int k (binI op k x y)) w := by
 rcases hop with rfl | rfl <;> simp [binOp, Op.intDiv, binI, hy]
theorem run_cmp (op : BinOp) (hop : isCmp op = true) (t : TypeId) (k : IntKind) (x y : Int) : (binOp op t (.int k x) (.int k y)).run P w = .ok (.bool (cmpB op x y)) w := by
 cases op <;> simp [isCmp] at hop <;> simp [binOp, Op.intCmp, cmpB]
theorem exec_bin {e : Operand → Value} {o : Oper} {op : BinOp} {t yt : TypeId} {x y : Operand} {v : Value} (ho : o.op = .binOp op t x y yt) (hg : (eqGuard op t x y (e x) (e y)).run P w = .ok () w) (h : (binOp op t (e x) (e y)).run P w = .ok v w) :
 (execOp e o).run P w = .ok (.value v) w := by
 simp only [execOp, ho, Sem.run_bind, hg, h, Result.andThen_ok, Sem.run_pure]
theorem binE_sound {op : BinOp} {t : TypeId} {k k' : IntKind} {a b : SE} {x y : Int} {r : Res} (da : a.den = .int k x) (db : b.den = .int k' y) (a0 : k.min ≤ x) (a1 : x ≤ k.max) (b0 : k'.min ≤ y)
 (hh : (binE op k k' a b).den = some r) : ∃ v c, (binOp op t (.int k x) (.int k' y)).run P w = .ok v w ∧ r = .val (.p (.c (.e c))) ∧ CRel ρ (.e c) v := by
 have hsh : ∀ op, (op = .shl ∨ op = .shr) → (if shiftOk k' b = true then vE (mkBin op k a b) else .fail).den = some r → ∃ v c, (binOp op t (.int k x) (.int k' y)).run P w = .ok v w ∧ r = .val (.p (.c (.e c))) ∧ CRel ρ (.e c) v := by
  intro op hop h
  split at h
  ·rename_i hs
   have hy : 0 ≤ y := by
    simp only [shiftOk, Bool.or_eq_true] at hs
    rcases hs with hs | hs
    ·cases k' <;> simp [unsg] at hs <;> exact b0
    ·split at hs
     ·simp [SE.den] at db
      obtain ⟨_, rfl⟩ := db
      simpa using hs
     ·simp at hs
   exact ⟨_, _, run_shift op hop t k k' x y hy, vE_some h, mkBin_rel op da db a0 a1⟩
  ·simp [Tree.den] at h
 have har : ∀ op, (op = .add ∨ op = .sub ∨ op = .mul ∨ op = .and ∨ op = .or ∨ op = .xor ∨ op = .andNot) → (if binEqIK k k' = true then vE (mkBin op k a b) else .fail).den = some r → ∃ v c, (binOp op t (.int k x) (.int k' y)).run P w = .ok v w ∧ r = .val (.p (.c (.e c))) ∧ CRel ρ (.e c) v := by
  intro op hop h
  split at h
  ·rename_i hk
   obtain rfl := eqIK hk
   exact ⟨_, _, run_arith op hop t k' x y, vE_some h, mkBin_rel op da db a0 a1⟩
  ·simp [Tree.den] at h
 have hdv : ∀ op, (op = .quo ∨ op = .rem) → (if binEqIK k k' = true then
  (match b with
  | .lit (.int _ n) => if decide (n = 0) then Tree.fail else vE (mkBin op k a b)
  | b => Tree.ite (.cmp .eql b (.lit (.int k 0))) Tree.fail (vE (mkBin op k a b)))
  else Tree.fail).den = some r → ∃ v c, (binOp op t (.int k x) (.int k' y)).run P w = .ok v w ∧ r = .val (.p (.c (.e c))) ∧ CRel ρ (.e c) v := by
  intro op hop h
  split at h
  ·rename_i hk
   obtain rfl := eqIK hk
   split at h
   ·split at h
    ·simp [Tree.den] at h
    ·rename_i hz
     have hn := db
     simp [SE.den] at hn
     obtain ⟨_, rfl⟩ := hn
     exact ⟨_, _, run_div op hop t k' x _ (by simpa using hz), vE_some h, mkBin_rel op da db a0 a1⟩
   ·simp only [Tree.den, SE.den, db, num, tru, cmpB] at h
    cases hz : (y == 0) with
    | true => simp [hz] at h
    | false =>
     simp only [hz, cond_false] at h
     exact ⟨_, _, run_div op hop t k' x _ (by simpa using hz), vE_some h, mkBin_rel op da db a0 a1⟩
  ·simp [Tree.den] at h
 have hcm : ∀ op, (if (isCmp op && binEqIK k k') = true then vE (mkCmp op a b) else .fail).den = some r → ∃ v c, (binOp op t (.int k x) (.int k' y)).run P w = .ok v w ∧ r = .val (.p (.c (.e c))) ∧ CRel ρ (.e c) v := by
  intro op h
  split at h
  ·rename_i hk
   simp only [Bool.and_eq_true] at hk
   obtain rfl := eqIK hk.2
   exact ⟨_, _, run_cmp op hk.1 t k' x y, vE_some h, mkCmp_rel op da db⟩
  ·simp [Tree.den] at h
 cases op <;> simp only [binE] at hh <;> first
  | exact hsh _ (by simp) hh
  | exact har _ (by simp) hh
  | exact hdv _ (by simp) hh
  | exact hcm _ hh
end
end Go.Proofs.YtdioaiepkhepaaaGreatDoor
namespace Go.Proofs.YtdioaiepkhepaaaGreatDoor
open Go.RowKit
section
variable {P : Program} {w : World} {ρ : Rho}
def EqOk (P : Program) (w : World) (ρ : Rho) (d : Nat) (rec : TypeId → SP → SP → Option SE) : Prop :=
 ∀ t x y c v u, rec t x y = some c → PRel ρ x v → PRel ρ y u → ∃ b, (Op.equalIn d t v u).run P w = .ok b w ∧ CRel ρ (.e c) (.bool b)
theorem eqFs_sound {d : Nat} {rec : TypeId → SP → SP → Option SE} (hrec : EqOk P w ρ d rec) {xs ys : List SC} {vs us : List Value} (hx : CsRel ρ xs vs) (hy : CsRel ρ ys us) :
 ∀ (fs : List Field) (c : SE), eqFs rec P xs ys fs = some c → ∃ b, (Op.eqFields d vs.toArray us.toArray fs).run P w = .ok b w ∧ CRel ρ (.e c) (.bool b)
 | [], c, h => by
  simp [eqFs] at h
  subst h
  exact ⟨true, by simp [Op.eqFields], rfl, .b, rfl, _, rfl⟩
 | f :: fs, c, h => by
  simp only [eqFs] at h
  split at h
  ·simp at h
  ·rename_i hn
   split at h
   ·rename_i a b ha hb
    split at h
    ·rename_i c1 c2 h1 h2
     simp at h
     subst h
     obtain ⟨va, ra, pa⟩ := run_part (P := P) (w := w) ha hx
     obtain ⟨vb, rb, pb⟩ := run_part (P := P) (w := w) hb hy
     obtain ⟨r1, e1, k1⟩ := hrec _ _ _ _ _ _ h1 pa pb
     obtain ⟨r2, e2, k2⟩ := eqFs_sound hrec hx hy fs c2 h2
     have hn' : f.name ≠ "_" := by simpa using hn
     refine ⟨r1 && r2, ?_, mkCon_rel k1 k2⟩
     simp only [Op.eqFields, if_pos hn', Sem.run_bind, ra, rb, e1, Result.andThen_ok]
     cases r1 <;> simp [e2]
    ·simp at h
   ·simp at h
theorem eqEs_sound {d : Nat} {rec : TypeId → SP → SP → Option SE} (hrec : EqOk P w ρ d rec) {xs ys : List SC} {vs us : List Value} (hx : CsRel ρ xs vs) (hy : CsRel ρ ys us) (e n : Nat) :
 ∀ (len i : Nat) (c : SE), eqEs rec P e n xs ys i len = some c → ∃ b, (Op.eqItems d e n vs.toArray us.toArray (List.range' i len)).run P w = .ok b w ∧ CRel ρ (.e c) (.bool b)
 | 0, i, c, h => by
  simp [eqEs] at h
  subst h
  exact ⟨true, by simp [Op.eqItems], rfl, .b, rfl, _, rfl⟩
 | len + 1, i, c, h => by
  simp only [eqEs] at h
  split at h
  ·rename_i a b ha hb
   split at h
   ·rename_i c1 c2 h1 h2
    simp at h
    subst h
    obtain ⟨va, ra, pa⟩ := run_part (P := P) (w := w) ha hx
    obtain ⟨vb, rb, pb⟩ := run_part (P := P) (w := w) hb hy
    obtain ⟨r1, e1, k1⟩ := hrec _ _ _ _ _ _ h1 pa pb
    obtain ⟨r2, e2, k2⟩ := eqEs_sound hrec hx hy e n len (i + 1) c2 h2
    refine ⟨r1 && r2, ?_, mkCon_rel k1 k2⟩
    simp only [List.range'_succ, Op.eqItems, Sem.run_bind, ra, rb, e1, Result.andThen_ok]
    cases r1 <;> simp [e2]
   ·simp at h
  ·simp at h
theorem eqS_sound : ∀ d, EqOk P w ρ d (eqS P d)
 | 0 => by intro t x y c v u h; simp [eqS] at h
 | d + 1 => by
  intro t x y c v u h hx hy
  unfold eqS at h
  split at h
  ·rename_i hu
   split at h
   ·rename_i ka kb
    simp at h
    subst h
    obtain ⟨p, rfl, da⟩ := erel_bool (ρ := ρ) hx ka
    obtain ⟨q, rfl, db⟩ := erel_bool (ρ := ρ) hy kb
    exact ⟨p == q, by simp [Op.equalIn, run_underlying hu], mkBeq_rel da db⟩
   ·simp at h
  ·rename_i kk hu
   split at h
   ·rename_i k k' ka kb
    split at h
    ·rename_i hk
     obtain rfl := eqIK hk
     simp at h
     subst h
     obtain ⟨p, rfl, da, _⟩ := erel_int (ρ := ρ) hx ka
     obtain ⟨q, rfl, db, _⟩ := erel_int (ρ := ρ) hy kb
     exact ⟨p == q, by simp [Op.equalIn, run_underlying hu], mkCmp_rel .eql da db⟩
    ·simp at h
   ·simp at h
  ·rename_i fs xs ys hu
   split at h
   ·simp at h
   ·rename_i hst
    obtain ⟨vs, rfl, rx⟩ := hx
    obtain ⟨us, rfl, ry⟩ := hy
    obtain ⟨b, e, k⟩ := eqFs_sound (eqS_sound d) rx ry fs.toList c h
    have hf : P.fieldsOf t = fs := by simp [Program.fieldsOf, hu]
    refine ⟨b, ?_, k⟩
    rw [run_equalIn_struct w d t vs.toArray us.toArray (by rw [hf]; exact hu) (by simpa using hst), hf]
    exact e
  ·rename_i len e xs ys hu
   split at h
   ·rename_i n hs
    obtain ⟨vs, rfl, rx⟩ := hx
    obtain ⟨us, rfl, ry⟩ := hy
    obtain ⟨b, r, k⟩ := eqEs_sound (eqS_sound d) rx ry e n len 0 c h
    unfold sizeT at hs
    cases hi : P.info? e with
    | none => simp [hi] at hs
    | some i =>
     have hc : P.cellsOf e = n := by simp [hi] at hs; simp [Program.cellsOf, hi, hs]
     refine ⟨b, ?_, k⟩
     rw [run_equalIn_array w d vs.toArray us.toArray hu hi, hc, List.range_eq_range']
     exact r
   ·simp at h
  ·simp at h
theorem run_eql_bool {t : TypeId} (p q : Bool) (h : P.underlying t = some .bool) : (binOp .eql t (.bool p) (.bool q)).run P w = .ok (.bool (p == q)) w := by
 have e := run_equalIn_bool' (P := P) w 9999 t p q h
 simp only [binOp, Sem.run_bind]
 show ((Op.equalIn (9999 + 1) t (.bool p) (.bool q)).run P w).andThen _ = _
 rw [e]
 rfl
theorem run_neq_bool {t : TypeId} (p q : Bool) (h : P.underlying t = some .bool) : (binOp .neq t (.bool p) (.bool q)).run P w = .ok (.bool (!(p == q))) w := by
 have e := run_equalIn_bool' (P := P) w 9999 t p q h
 simp only [binOp, Sem.run_bind]
 show ((Op.equalIn (9999 + 1) t (.bool p) (.bool q)).run P w).andThen _ = _
 rw [e]
 rfl
theorem binStep_sound {B : Foot} {H : List (Nat × Blk)} {e : Operand → Value} {o : Oper} {op : BinOp} {t yt : TypeId} {x y : Operand} {a b : SP} {r : Res} (ho : o.op = .binOp op t x y yt)
 (hx : PRel ρ a (e x)) (hy : PRel ρ b (e y)) (h : (binStep P op t a b).den = some r) : Eff P B ρ H w (execOp e o) r := by
 unfold binStep at h
 split at h
 ·rename_i a b
  split at h
  ·rename_i k k' ka kb
   obtain ⟨p, ep, da, p0, p1⟩ := erel_int (ρ := ρ) hx ka
   obtain ⟨q, eq, db, q0, q1⟩ := erel_int (ρ := ρ) hy kb
   obtain ⟨v, c, hr, rfl, hc⟩ := binE_sound (P := P) (w := w) (ρ := ρ) (t := t) da db p0 p1 q0 h
   exact ⟨v, exec_bin ho (by rw [ep, eqGuard_at_int]; rfl) (by rw [ep, eq]; exact hr), hc⟩
  ·rename_i ka kb
   obtain ⟨p, ep, da⟩ := erel_bool (ρ := ρ) hx ka
   obtain ⟨q, eq, db⟩ := erel_bool (ρ := ρ) hy kb
   have hg : (eqGuard op t x y (e x) (e y)).run P w = .ok () w := by rw [ep, eqGuard_at_bool]; rfl
   split at h
   ·rename_i hu
    obtain rfl := vE_some h
    exact ⟨.bool (p == q), exec_bin ho hg (by rw [ep, eq]; exact run_eql_bool p q hu), mkBeq_rel (ρ := ρ) da db⟩
   ·rename_i hu
    obtain rfl := vE_some h
    exact ⟨.bool (!(p == q)), exec_bin ho hg (by rw [ep, eq]; exact run_neq_bool p q hu), mkNeg_rel (ρ := ρ) (mkBeq_rel (ρ := ρ) da db).1.symm⟩
   ·simp [Tree.den] at h
  ·rename_i ka kb
   obtain ⟨p, ep, da⟩ := erel_str (ρ := ρ) hx ka
   obtain ⟨q, eq, db⟩ := erel_str (ρ := ρ) hy kb
   have hg : (eqGuard op t x y (e x) (e y)).run P w = .ok () w := by rw [ep, eqGuard_at_string]; rfl
   split at h
   ·obtain rfl := vE_some h
    exact ⟨.bool (eqStr p q), exec_bin ho hg (by rw [ep, eq, eqStr_eq]; simp [binOp, Op.stringOp]), mkSeq_rel (ρ := ρ) da db⟩
   ·obtain rfl := vE_some h
    exact ⟨.bool (!(eqStr p q)), exec_bin ho hg (by rw [ep, eq, eqStr_eq]; simp [binOp, Op.stringOp]), mkNeg_rel (ρ := ρ) (mkSeq_rel (ρ := ρ) da db).1.symm⟩
   ·simp [Tree.den] at h
  ·simp [Tree.den] at h
 ·rename_i xs ys
  split at h
  ·simp [Tree.den] at h
  ·rename_i hgt
   obtain ⟨vs, ev, rx⟩ := hx
   obtain ⟨us, eu, ry⟩ := hy
   have hg : (eqGuard op t x y (e x) (e y)).run P w = .ok () w := by rw [ev, eu]; exact run_eqGuard_agg w op t x y vs.toArray us.toArray (by simpa using hgt)
   split at h
   ·rename_i c hc
    obtain rfl := vE_some h
    obtain ⟨b, hr, hk⟩ := eqS_sound (w := w) (ρ := ρ) 10000 t (.agg xs) (.agg ys) c _ _ hc ⟨vs, rfl, rx⟩ ⟨us, rfl, ry⟩
    exact ⟨.bool b, exec_bin ho hg (by rw [ev, eu, run_eql_struct, hr]; rfl), hk⟩
   ·rename_i c hc
    obtain rfl := vE_some h
    obtain ⟨b, hr, hk⟩ := eqS_sound (w := w) (ρ := ρ) 10000 t (.agg xs) (.agg ys) c _ _ hc ⟨vs, rfl, rx⟩ ⟨us, rfl, ry⟩
    exact ⟨.bool (!b), exec_bin ho hg (by rw [ev, eu, run_neq_struct, hr]; rfl), mkNeg_rel (ρ := ρ) hk.1.symm⟩
   ·simp [Tree.den] at h
 ·simp [Tree.den] at h
theorem foldl_put : ∀ (vs : List Value) (cs : List Value) (off i : Nat), ((vs.zipIdx i).foldl (fun (cs : Array Value) (c, j) => cs.setIfInBounds (off + j) c) cs.toArray) = (putV cs (off + i) vs).toArray
 | [], _, _, _ => rfl
 | v :: vs, cs, off, i => by
  simp only [List.zipIdx_cons, List.foldl_cons, putV, List.setIfInBounds_toArray]
  exact foldl_put vs _ off (i + 1)
theorem fill_sound (place : Nat → Option (Nat × Nat)) : ∀ (ps : List (Nat × SP)) (us : List (Nat × Value)) (cs : List SC) (vs : List Value) (ds : List SC), CsRel ρ cs vs →
 (ps.length = us.length ∧ ∀ (i : Nat) (p : Nat × SP) (u : Nat × Value), ps[i]? = some p → us[i]? = some u → p.1 = u.1 ∧ PRel ρ p.2 u.2) → fillS place cs ps = some ds → ∃ ws : List Value, Instr.fill place vs.toArray us = some ws.toArray ∧ CsRel ρ ds ws
 | [], [], cs, vs, ds, h, _, hf => by simp [fillS] at hf; subst hf; exact ⟨vs, rfl, h⟩
 | [], _ :: _, _, _, _, _, hp, _ => by simp at hp
 | _ :: _, [], _, _, _, _, hp, _ => by simp at hp
 | (i, v) :: ps, (j, u) :: us, cs, vs, ds, h, hp, hf => by
  obtain ⟨hl, hp⟩ := hp
  obtain ⟨e, hv⟩ := hp 0 _ _ rfl rfl
  simp only at e hv
  subst e
  simp only [fillS] at hf
  split at hf
  ·simp at hf
  ·rename_i off size hpl
   split at hf
   ·simp at hf
   ·rename_i hc
    simp only [Bool.not_eq_true, Bool.or_eq_false_iff, Bool.not_eq_false'] at hc
    have hc1 := beq_len hc.1
    have hc2 : ¬ cs.length < off + v.cells.length := fun hlt => by have h2 := hc.2; rw [Nat.blt, Nat.ble_eq_true_of_le (by omega)] at h2; exact Bool.noConfusion h2
    have hcr := hv.cells
    have l1 := hcr.length
    have l2 := h.length
    obtain ⟨ws, hw, hr⟩ := fill_sound place ps us (putC cs off v.cells) (putV vs off u.cells.toList) ds (put_rel off h hcr) ⟨by simpa using hl, fun n p q h1 h2 => hp (n + 1) p q (by simpa using h1) (by simpa using h2)⟩ hf
    refine ⟨ws, ?_, hr⟩
    simp only [Instr.fill, hpl]
    rw [if_neg (by
     simp at l1 ⊢
     omega)]
    rw [← hw]
    congr 1
    have := foldl_put u.cells.toList vs off 0
    simp only [Nat.add_zero] at this
    rw [← this, ← Array.foldl_toList]
    simp
theorem getPs_sound {g : Get} {e : Operand → Value} (hg : ∀ x sv, g x = some sv → VRel ρ sv (e x)) : ∀ (l : List (Nat × Operand)) (ps : List (Nat × SP)), getPs g l = some ps →
 ps.length = (l.map fun (i, x) => (i, e x)).length ∧ ∀ (i : Nat) (p : Nat × SP) (u : Nat × Value), ps[i]? = some p → (l.map fun (i, x) => (i, e x))[i]? = some u → p.1 = u.1 ∧ PRel ρ p.2 u.2
 | [], ps, h => by simp [getPs] at h; subst h; simp
 | (i, x) :: l, ps, h => by
  simp only [getPs] at h
  split at h
  ·rename_i v r hv hr
   simp at h
   subst h
   obtain ⟨h1, h2⟩ := getPs_sound hg l r hr
   refine ⟨by simpa using h1, fun n p u hp hu => ?_⟩
   cases n with
   | zero =>
    simp at hp hu
    subst hp hu
    refine ⟨rfl, ?_⟩
    unfold getP at hv
    split at hv
    ·rename_i y hy
     simp at hv
     subst hv
     exact hg x _ hy
    ·simp at hv
   | succ n => exact h2 n p u (by simpa using hp) (by simpa using hu)
  ·simp at h
theorem placesS_spec : ∀ (fs : List Field) (pl : List (Nat × Nat)), placesS P fs = some pl → fs.mapM (fun f => (P.info? f.type).map fun i => (f.offset, i.size)) = some pl
 | [], pl, h => by simp [placesS] at h; subst h; rfl
 | f :: fs, pl, h => by
  simp only [placesS] at h
  split at h
  ·rename_i n r hn hr
   simp at h
   subst h
   have ih := placesS_spec fs r hr
   unfold sizeT at hn
   cases hi : P.info? f.type with
   | none => simp [hi] at hn
   | some i => simp [hi] at hn; simp [List.mapM_cons, hi, ih, hn]
  ·simp at h
theorem splitI_den {e : SE} {k : IntKind} {n : Int} (he : e.den = .int k n) {mk : Nat → Tree Res} {r : Res} : ∀ (c i : Nat), (splitI e k mk i c).den = some r → ∃ j : Nat, j < i + c ∧ n = j ∧ (mk j).den = some r
 | 0, i, h => by simp [splitI, Tree.den] at h
 | c + 1, i, h => by
  simp only [splitI, Tree.den, SE.den, he, num, cmpB, tru] at h
  cases hb : (n == (i : Int)) with
  | true =>
   rw [hb] at h
   exact ⟨i, by omega, by simpa using hb, h⟩
  | false =>
   rw [hb] at h
   obtain ⟨j, h1, h2⟩ := splitI_den he c (i + 1) h
   exact ⟨j, by omega, h2⟩
theorem atI_den {e : SE} {v : Value} (he : CRel ρ (.e e) v) {len : Nat} {mk : Nat → Tree Res} {r : Res} (h : (atI e len mk).den = some r) : ∃ (k : IntKind) (j : Nat), v = .int k j ∧ j < len ∧ (mk j).den = some r := by
 unfold atI at h
 split at h
 ·rename_i k j
  split at h
  ·rename_i hc
   simp at hc
   have hd := he.1
   simp only [SE.den] at hd
   exact ⟨k, j.toNat, by rw [hd]; congr 1; omega, by omega, h⟩
  ·simp [Tree.den] at h
 ·split at h
  ·rename_i k hk
   obtain ⟨n, e1, e2, _⟩ := erel_int (ρ := ρ) he hk
   obtain ⟨j, h1, h2, h3⟩ := splitI_den e2 len 0 h
   exact ⟨k, j, by rw [e1, h2], by omega, h3⟩
  ·simp [Tree.den] at h
theorem repC_rel {zs : List SC} {vs : List Value} (h : CsRel ρ zs vs) (hz : 0 < vs.length) (n : Nat) : CsRel ρ (repC zs n) ((List.range n).map fun i => vs.toArray[i % vs.toArray.size]!) := by
 unfold repC
 generalize List.range n = l
 induction l with
 | nil => trivial
 | cons i l ih =>
  refine ⟨?_, ih⟩
  have hl := h.length
  have hi : i % vs.length < vs.length := Nat.mod_lt _ hz
  obtain ⟨v, hv, hr⟩ := h.get (i := i % vs.length) (c := zs.getD (i % vs.length) (.e (.lit (.bool false)))) (by
   rw [List.getD_eq_getElem?_getD, List.getElem?_eq_getElem (by omega)]; rfl)
  rw [hl]
  have e : vs.toArray[i % vs.toArray.size]! = v := by
   rw [List.size_toArray]
   simp [hv]
  show CRel ρ _ (vs.toArray[i % vs.toArray.size]!)
  rw [e]
  exact hr
section gets
variable {g : Get} {e : Operand → Value} (hg : ∀ x sv, g x = some sv → VRel ρ sv (e x))
include hg
theorem getP_rel {x : Operand} {p : SP} (h : getP g x = some p) : PRel ρ p (e x) := by
 unfold getP at h
 split at h
 ·rename_i y hy; simp at h; subst h; exact hg x _ hy
 ·simp at h
theorem getE_rel {x : Operand} {p : SE} (h : getE g x = some p) : CRel ρ (.e p) (e x) := by
 unfold getE at h
 split at h
 ·rename_i y hy; simp at h; subst h; exact hg x _ hy
 ·simp at h
theorem getA_rel {x : Operand} {p : Nat × Nat} (h : getA g x = some p) : ∃ n, ρ p.1 = some n ∧ e x = .pointer (some ⟨n, p.2, none⟩) := by
 unfold getA at h
 split at h
 ·rename_i y hy; simp at h; subst h; exact hg x _ hy
 ·simp at h
theorem getSl_rel {x : Operand} {p : Nat × Nat × Nat} (h : getSl g x = some p) : ∃ n cap, ρ p.1 = some n ∧ e x = .slice (some ⟨n, p.2.1, none⟩) p.2.2 cap := by
 unfold getSl at h
 split at h
 ·rename_i n off len cap hy; simp at h; subst h; obtain ⟨m, h1, h2⟩ := hg x _ hy; exact ⟨m, cap, h1, h2⟩
 ·simp at h
theorem getCaps_rel : ∀ (l : List Operand) (caps : List Cap), getCaps g l = some caps → CapsRel ρ caps (l.map e)
 | [], caps, h => by simp [getCaps] at h; subst h; trivial
 | x :: l, caps, h => by
  simp only [getCaps] at h
  split at h
  ·rename_i n off r hv hr
   simp at h
   subst h
   exact ⟨hg x _ hv, getCaps_rel l r hr⟩
  ·rename_i y off r hv hr
   simp at h
   subst h
   exact ⟨hg x _ hv, getCaps_rel l r hr⟩
  ·simp at h
theorem getSs_rel : ∀ (l : List Operand) (ss : List SV), getSs g l = some ss → VsRel ρ ss (l.map e)
 | [], caps, h => by simp [getSs] at h; subst h; trivial
 | x :: l, caps, h => by
  simp only [getSs] at h
  split at h
  ·rename_i v r hv hr
   simp at h
   subst h
   exact ⟨hg x _ hv, getSs_rel l r hr⟩
  ·simp at h
theorem fold_min (k : IntKind) : ∀ (l : List Operand) (acc r : SE) (x : Int), CRel ρ (.e acc) (.int k x) → acc.kind = some (.i k) → foldE (mkMn k) k g acc l = some r →
 ∃ y, ((l.map e).foldlM Builtin.min2 (.int k x)).run P w = .ok (.int k y) w ∧ CRel ρ (.e r) (.int k y)
 | [], acc, r, x, ha, _, h => by simp [foldE] at h; subst h; exact ⟨x, by simp, ha⟩
 | z :: l, acc, r, x, ha, hk, h => by
  simp only [foldE] at h
  split at h
  ·rename_i y hy
   split at h
   ·rename_i k' ky
    split at h
    ·rename_i hkk
     obtain rfl := eqIK hkk
     obtain ⟨q, eq, dq, q0, q1⟩ := erel_int (ρ := ρ) (getE_rel hg hy) ky
     obtain ⟨p, ep, dp, p0, p1⟩ := erel_int (ρ := ρ) ha hk
     cases ep
     have hm := mkMn_rel (ρ := ρ) dp dq p0 p1 q0 q1
     obtain ⟨y', r1, r2⟩ := fold_min k' l _ r _ hm (by unfold mkMn; split <;> rfl) h
     refine ⟨y', ?_, r2⟩
     simp only [List.map_cons, List.foldlM_cons, eq, Builtin.min2, Sem.run_bind, Sem.run_pure, Result.andThen_ok]
     exact r1
    ·simp at h
   ·simp at h
  ·simp at h
theorem fold_max (k : IntKind) : ∀ (l : List Operand) (acc r : SE) (x : Int), CRel ρ (.e acc) (.int k x) → acc.kind = some (.i k) → foldE (mkMx k) k g acc l = some r →
 ∃ y, ((l.map e).foldlM Builtin.max2 (.int k x)).run P w = .ok (.int k y) w ∧ CRel ρ (.e r) (.int k y)
 | [], acc, r, x, ha, _, h => by simp [foldE] at h; subst h; exact ⟨x, by simp, ha⟩
 | z :: l, acc, r, x, ha, hk, h => by
  simp only [foldE] at h
  split at h
  ·rename_i y hy
   split at h
   ·rename_i k' ky
    split at h
    ·rename_i hkk
     obtain rfl := eqIK hkk
     obtain ⟨q, eq, dq, q0, q1⟩ := erel_int (ρ := ρ) (getE_rel hg hy) ky
     obtain ⟨p, ep, dp, p0, p1⟩ := erel_int (ρ := ρ) ha hk
     cases ep
     have hm := mkMx_rel (ρ := ρ) dp dq p0 p1 q0 q1
     obtain ⟨y', r1, r2⟩ := fold_max k' l _ r _ hm (by unfold mkMx; split <;> rfl) h
     refine ⟨y', ?_, r2⟩
     simp only [List.map_cons, List.foldlM_cons, eq, Builtin.max2, Sem.run_bind, Sem.run_pure, Result.andThen_ok]
     exact r1
    ·simp at h
   ·simp at h
  ·simp at h
end gets
theorem guard_den {α : Type} {f : Nat} {F : List Value → List Value} {args : List SE} {t : Tree α} {r : α} (h : (Tree.ite (.app f F 0 .b args) t .fail).den = some r) : tru ((F (denL args)).getD 0 undef) = true ∧ t.den = some r := by
 simp only [Tree.den, SE.den] at h
 change (bif tru ((F (denL args)).getD 0 undef) then t.den else none) = some r at h
 cases hb : tru ((F (denL args)).getD 0 undef) with
 | true => rw [hb] at h; exact ⟨rfl, h⟩
 | false => rw [hb] at h; cases h
section whole
variable {g : Get} {e : Operand → Value} (hg : ∀ x sv, g x = some sv → VRel ρ sv (e x)) {B : Foot} {H : List (Nat × Blk)} (hH : HRel B ρ H w)
include hg hH
omit hg hH in
theorem eff_val {o : Oper} {r : Res} {sv : SV} {v : Value} (h : (Tree.ret (Res.val sv)).den = some r) (hr : (execOp e o).run P w = .ok (.value v) w) (hv : VRel ρ sv v) : Eff P B ρ H w (execOp e o) r := by
 simp [Tree.den] at h
 subst h
 exact ⟨v, hr, hv⟩
set_option maxHeartbeats 1000000 in
theorem pure_sound {o : Oper} {r : Res} (h : (pureStep P H g o.op).den = some r) : Eff P B ρ H w (execOp e o) r := by
 obtain ⟨dst, op, type, pos, after, guard⟩ := o
 simp only at h
 unfold pureStep at h
 split at h
 ·
  rename_i x
  split at h
  ·rename_i v hv; exact eff_val h (by simp [execOp]) (hg _ _ hv)
  ·simp [Tree.den] at h
 ·
  rename_i x
  split at h
  ·rename_i v hv; exact eff_val h (by simp [execOp]) (hg _ _ hv)
  ·simp [Tree.den] at h
 ·
  rename_i c a b
  split at h
  ·rename_i hc
   have ec := (getE_rel hg hc).1
   simp only [SE.den] at ec
   split at h
   ·rename_i v hv; exact eff_val h (by simp [execOp, ec, asBool]) (hg _ _ hv)
   ·simp [Tree.den] at h
  ·rename_i hc
   have ec := (getE_rel hg hc).1
   simp only [SE.den] at ec
   split at h
   ·rename_i v hv; exact eff_val h (by simp [execOp, ec, asBool]) (hg _ _ hv)
   ·simp [Tree.den] at h
  ·rename_i c' _ _ hc
   split at h
   ·rename_i u v hk hu hv
    obtain ⟨t, et, dt⟩ := erel_bool (ρ := ρ) (getE_rel hg hc) hk
    simp only [Tree.den, dt, tru] at h
    cases t with
    | true => exact eff_val h (by simp [execOp, et, asBool]) (hg _ _ hu)
    | false => exact eff_val h (by simp [execOp, et, asBool]) (hg _ _ hv)
   ·simp [Tree.den] at h
  ·simp [Tree.den] at h
 ·
  rename_i t
  split at h
  ·rename_i v hz
   split at h
   ·rename_i cs hc
    simp [Tree.den] at h
    subst h
    exact ⟨v.cells.toList, by simp [execOp, Instr.alloc, run_zero hz, newVar, newRow], ofCells_rel hc⟩
   ·simp [Tree.den] at h
  ·simp [Tree.den] at h
 ·
  rename_i t x
  split at h
  ·rename_i v hv
   simp [Tree.den] at h
   subst h
   exact ⟨(e x).cells.toList, by simp [execOp, Instr.box, newVar, newRow], (getP_rel hg hv).cells⟩
  ·simp [Tree.den] at h
 ·
  rename_i t parts
  split at h
  ·rename_i z ps hz hp
   cases hi : P.info? t with
   | none => simp [hi] at hz
   | some it =>
    simp [hi] at hz
    split at h
    ·rename_i zs fs hzs hu
     split at h
     ·rename_i pl hpl
      split at h
      ·rename_i cs hcs
       obtain ⟨ws, hw, hr⟩ := fill_sound (fun i => pl[i]?) ps _ zs z.cells.toList cs (ofCells_rel hzs) (getPs_sound hg parts.toList ps hp) hcs
       refine eff_val (v := .agg ws.toArray) h ?_ ⟨ws, rfl, hr⟩
       have hb : P.built t (parts.map fun (i, x) => (i, e x)).toList = some ws.toArray := by
        simp only [Program.built, hi, hu, hz, placesS_spec _ _ hpl]
        rw [← hw]
        simp
       simp only [execOp, Sem.run_bind, run_build w t _ _ hb, Result.andThen_ok, Sem.run_pure]
      ·simp [Tree.den] at h
     ·simp [Tree.den] at h
    ·rename_i zs n el hzs hu
     split at h
     ·rename_i n hs
      split at h
      ·rename_i cs hcs
       obtain ⟨ws, hw, hr⟩ := fill_sound (fun i => some (i * n, n)) ps _ zs z.cells.toList cs (ofCells_rel hzs) (getPs_sound hg parts.toList ps hp) hcs
       refine eff_val (v := .agg ws.toArray) h ?_ ⟨ws, rfl, hr⟩
       have hb : P.built t (parts.map fun (i, x) => (i, e x)).toList = some ws.toArray := by
        unfold sizeT at hs
        cases hie : P.info? el with
        | none => simp [hie] at hs
        | some ie =>
         simp [hie] at hs
         subst hs
         simp only [Program.built, hi, hu, hz, hie]
         rw [← hw]
         simp
       simp only [execOp, Sem.run_bind, run_build w t _ _ hb, Result.andThen_ok, Sem.run_pure]
      ·simp [Tree.den] at h
     ·simp [Tree.den] at h
    ·simp [Tree.den] at h
  ·simp [Tree.den] at h
 ·
  rename_i t x
  split at h
  ·rename_i n off ha
   obtain ⟨q, hq, ex⟩ := getA_rel hg ha
   split at h
   ·rename_i b hb
    split at h
    ·rename_i p hp
     obtain ⟨v, hv, hr⟩ := run_loadVar (P := P) hH hb hq hp
     exact eff_val (v := v) h (by simp [execOp, Instr.loadAt, ex, Instr.sureAddr, hv]) hr
    ·simp [Tree.den] at h
   ·simp [Tree.den] at h
  ·simp [Tree.den] at h
 ·
  rename_i t x y
  split at h
  ·rename_i n off v ha hv
   obtain ⟨q, hq, ex⟩ := getA_rel hg ha
   split at h
   ·rename_i b k hb hk
    split at h
    ·rename_i hc
     simp only [Bool.and_eq_true] at hc
     have c1 := beq_len hc.1.2
     have c2 := Nat.le_of_ble_eq_true hc.2
     simp [Tree.den] at h
     subst h
     have hcr := (getP_rel hg hv).cells
     obtain ⟨w', h1, h2, h3, h4, h5⟩ := hH.store (P := P) (off := off) hb hq hc.1.1 (by omega) hcr
     have hl := hcr.length
     refine ⟨w', ?_, h2, h3, h4, q, b, hq, hb, h5⟩
     have hsz : ¬ (e y).cells.size ≠ k := by
      have : (e y).cells.toList.length = k := by omega
      simpa using this
     simp only [execOp, Instr.storeAt, ex, Instr.sureAddr, storeVar, Sem.run_bind, Sem.run_pure, Result.andThen_ok, run_size hk, Sem.run_ite, if_neg hsz]
     rw [h1]
     rfl
    ·simp [Tree.den] at h
   ·simp [Tree.den] at h
  ·simp [Tree.den] at h
 ·
  rename_i x
  split at h
  ·rename_i n off hx
   obtain ⟨q, hq, ex⟩ := hg _ _ hx
   exact eff_val (v := e x) h (by simp [execOp, ex]) (hg _ _ hx)
  ·rename_i f c hx
   obtain ⟨q, hq, ex⟩ := hg _ _ hx
   exact eff_val (v := e x) h (by simp [execOp, ex]) (hg _ _ hx)
  ·simp [Tree.den] at h
 ·
  rename_i bop t x y yt
  split at h
  ·rename_i a b ha hb
   exact binStep_sound rfl (getP_rel hg ha) (getP_rel hg hb) h
  ·simp [Tree.den] at h
 ·
  rename_i xt x
  split at h
  ·rename_i a ha
   split at h
   ·rename_i k hk
    obtain rfl := vE_some h
    obtain ⟨n, en, dn, n0, n1⟩ := erel_int (ρ := ρ) (getE_rel hg ha) hk
    have hm : k.min ≤ 0 := by cases k <;> decide
    have hM : 0 ≤ k.max := by cases k <;> decide
    exact ⟨.int k (binI .sub k 0 n), by simp [execOp, en, Op.unary, Op.intArith, binI], mkBin_rel (ρ := ρ) .sub (a := .lit (.int k 0)) rfl dn hm hM⟩
   ·simp [Tree.den] at h
  ·simp [Tree.den] at h
 ·
  rename_i xt x
  split at h
  ·rename_i a ha
   split at h
   ·rename_i hk
    obtain rfl := vE_some h
    obtain ⟨n, en, dn⟩ := erel_bool (ρ := ρ) (getE_rel hg ha) hk
    exact ⟨.bool (!n), by simp [execOp, en, Op.unary], mkNeg_rel (ρ := ρ) dn⟩
   ·simp [Tree.den] at h
  ·simp [Tree.den] at h
 ·
  rename_i src dst x
  split at h
  ·rename_i k0 k a hs hd ha
   split at h
   ·rename_i j hj
    obtain rfl := vE_some h
    obtain ⟨n, en, dn, n0, n1⟩ := erel_int (ρ := ρ) (getE_rel hg ha) hj
    exact ⟨.int k (k.wrap n), by simp [execOp, en, convert, run_underlying hs, run_underlying hd, Conv.intToInt], mkCv_rel (ρ := ρ) k dn n0 n1⟩
   ·simp [Tree.den] at h
  ·simp [Tree.den] at h
 ·
  rename_i s x f
  split at h
  ·rename_i fs n off hu ha
   obtain ⟨q, hq, ex⟩ := getA_rel hg ha
   split at h
   ·rename_i fl hf
    split at h
    ·rename_i m hs
     refine eff_val (v := .pointer (some ⟨q, off + fl.offset, none⟩)) h ?_ ⟨q, hq, rfl⟩
     simp [execOp, Instr.fieldAt, run_underlying hu, hf, ex, Instr.sureAddr, fieldPlace, run_size hs, addr_add]
    ·simp [Tree.den] at h
   ·simp [Tree.den] at h
  ·simp [Tree.den] at h
 ·
  rename_i t x f
  split at h
  ·rename_i fs cs hu hp
   obtain ⟨vs, ev, rv⟩ := getP_rel hg hp
   split at h
   ·rename_i fl hf
    split at h
    ·rename_i p hpp
     obtain ⟨v, hv, hr⟩ := run_part (P := P) (w := w) hpp rv
     exact eff_val (v := v) h (by simp [execOp, Instr.field, run_underlying hu, hf, ev, asAgg, hv]) hr
    ·simp [Tree.den] at h
   ·simp [Tree.den] at h
  ·simp [Tree.den] at h
 ·
  rename_i t x i
  split at h
  ·rename_i len el j hu hi
   split at h
   ·rename_i n off s ha hs
    obtain ⟨q, hq, ex⟩ := getA_rel hg ha
    obtain ⟨k, m, ei, hm, hr⟩ := atI_den (getE_rel hg hi) h
    refine eff_val (v := .pointer (some ⟨q, off + m * s, none⟩)) hr ?_ ⟨q, hq, rfl⟩
    simp [execOp, Instr.indexAt, run_underlying hu, ex, ei, asIntOf, Instr.sureAddr, hm, run_size hs, addr_add]
   ·simp [Tree.den] at h
  ·rename_i el j hu hi
   split at h
   ·rename_i n off len s ha hs
    obtain ⟨q, cap, hq, ex⟩ := getSl_rel hg ha
    obtain ⟨k, m, ei, hm, hr⟩ := atI_den (getE_rel hg hi) h
    refine eff_val (v := .pointer (some ⟨q, off + m * s, none⟩)) hr ?_ ⟨q, hq, rfl⟩
    simp [execOp, Instr.indexAt, run_underlying hu, ex, ei, asIntOf, hm, run_size hs, addr_add]
   ·simp [Tree.den] at h
  ·simp [Tree.den] at h
 ·
  rename_i t x i
  split at h
  ·rename_i len el cs j hu hp hi
   obtain ⟨vs, ev, rv⟩ := getP_rel hg hp
   split at h
   ·rename_i s hs
    obtain ⟨k, m, ei, hm, hr⟩ := atI_den (getE_rel hg hi) h
    split at hr
    ·rename_i p hpp
     obtain ⟨v, hv, hrr⟩ := run_part (P := P) (w := w) hpp rv
     exact eff_val (v := v) hr (by simp [execOp, Instr.index, run_underlying hu, ev, ei, asIntOf, hm, run_size hs, hv]) hrr
    ·simp [Tree.den] at hr
   ·simp [Tree.den] at h
  ·simp [Tree.den] at h
 ·
  rename_i t len parts
  split at h
  ·rename_i el ps hu hp
   split at h
   ·rename_i n z hs hz
    split at h
    ·rename_i hc
     simp only [Bool.and_eq_true] at hc
     have c1 := Nat.le_of_ble_eq_true hc.1
     have c2 : 0 < len := Nat.le_of_ble_eq_true hc.2
     split at h
     ·rename_i zs hzs
      split at h
      ·rename_i hlz
       have hlz := beq_len hlz
       split at h
       ·rename_i cs hcs
        simp [Tree.den] at h
        subst h
        have hzr : CsRel ρ zs z.cells.toList := ofCells_rel hzs
        have hzl := hzr.length
        obtain ⟨ws, hw, hr⟩ := fill_sound (fun i => some (i * (n + 1), n + 1)) ps _ _ _ cs (repC_rel hzr (by omega) (len * (n + 1))) (getPs_sound hg parts.toList ps hp) hcs
        refine ⟨ws, ?_, hr⟩
        have hne : ¬ (len * (n + 1) = 0) := Nat.ne_of_gt (Nat.mul_pos c2 (Nat.succ_pos n))
        have hle : ¬ (len * (n + 1) > 2 ^ 24) := by omega
        have hfill : Instr.fill (fun i => some (i * (n + 1), n + 1)) ((Array.range (len * (n + 1))).map (z.cells[· % z.cells.size]!)) (parts.map fun (i, x) => (i, e x)).toList = some ws.toArray := by
         rw [← hw]
         congr 1
         ·apply Array.ext'
          simp [Array.toList_range]
         ·simp
        simp only [execOp, Instr.buildSlice, Sem.run_bind, run_underlying hu, Result.andThen_ok, run_size hs, Sem.run_ite, if_neg hle, if_neg hne, Sem.run_pure, run_zero hz]
        rw [hfill]
        simp [newRow]
       ·simp [Tree.den] at h
      ·simp [Tree.den] at h
     ·simp [Tree.den] at h
    ·simp [Tree.den] at h
   ·simp [Tree.den] at h
  ·simp [Tree.den] at h
 ·
  rename_i x i
  split at h
  ·rename_i xs hx
   obtain ⟨vs, ev, rv⟩ := hg _ _ hx
   split at h
   ·rename_i p hp
    obtain ⟨v, hv, hr⟩ := rv.get hp
    exact eff_val (v := v) h (by simp [execOp, Instr.extract, ev, hv]) hr
   ·simp [Tree.den] at h
  ·simp [Tree.den] at h
 ·
  rename_i f first captured
  split at h
  ·rename_i caps hf hc
   have hfirst : first = #[] := by simpa using hf
   exact eff_val (v := .func (.func f) #[] (captured.map e)) h (by simp [execOp, Instr.makeFunc, hfirst]) ⟨captured.toList.map e, getCaps_rel hg _ _ hc, by rw [← Array.toList_map]⟩
  ·simp [Tree.den] at h
 ·
  rename_i c
  obtain ⟨callee, args, argTypes⟩ := c
  simp only at h
  split at h
  ·
   unfold minmax at h
   split at h
   ·rename_i x l hargs
    split at h
    ·rename_i a ha
     split at h
     ·rename_i k hk
      split at h
      ·rename_i r' hr
       obtain rfl := vE_some h
       obtain ⟨n, en, dn, n0, n1⟩ := erel_int (ρ := ρ) (getE_rel hg ha) hk
       have hcr : CRel ρ (.e a) (.int k n) := by rw [← en]; exact getE_rel hg ha
       obtain ⟨y, hy, hc⟩ := fold_min (P := P) (w := w) hg k l a r' n hcr hk hr
       refine ⟨.int k y, ?_, hc⟩
       have hal : args.toList.map e = .int k n :: l.map e := by rw [hargs]; simp [en]
       simp [execOp, resolve, invoke, builtin, Builtin.min_, hal, hy]
      ·simp [Tree.den] at h
     ·simp [Tree.den] at h
    ·simp [Tree.den] at h
   ·simp [Tree.den] at h
  ·
   unfold minmax at h
   split at h
   ·rename_i x l hargs
    split at h
    ·rename_i a ha
     split at h
     ·rename_i k hk
      split at h
      ·rename_i r' hr
       obtain rfl := vE_some h
       obtain ⟨n, en, dn, n0, n1⟩ := erel_int (ρ := ρ) (getE_rel hg ha) hk
       have hcr : CRel ρ (.e a) (.int k n) := by rw [← en]; exact getE_rel hg ha
       obtain ⟨y, hy, hc⟩ := fold_max (P := P) (w := w) hg k l a r' n hcr hk hr
       refine ⟨.int k y, ?_, hc⟩
       have hal : args.toList.map e = .int k n :: l.map e := by rw [hargs]; simp [en]
       simp [execOp, resolve, invoke, builtin, Builtin.max_, hal, hy]
      ·simp [Tree.den] at h
     ·simp [Tree.den] at h
    ·simp [Tree.den] at h
   ·simp [Tree.den] at h
  ·
   split at h
   ·rename_i t x ht hx
    split at h
    ·rename_i n el hu
     split at h
     ·rename_i hle
      obtain rfl := vE_some h
      have hn := Nat.le_of_ble_eq_true hle
      have hat : argTypes = #[t] := by cases argTypes; simp at ht; simp [ht]
      have har : args = #[x] := by cases args; simp at hx; simp [hx]
      subst hat har
      refine ⟨.int .i64 n, ?_, rfl, .i .i64, rfl, n, rfl, ?_⟩
      ·simp [execOp, resolve, invoke, builtin, Builtin.len_, run_underlying hu, goInt]
      ·constructor
       ·have : IntKind.i64.min ≤ 0 := by decide
        omega
       ·have : (1000000 : Int) ≤ IntKind.i64.max := by decide
        omega
     ·simp [Tree.den] at h
    ·rename_i el hu
     split at h
     ·rename_i q1 q2 n hsl
      split at h
      ·rename_i hle
       obtain rfl := vE_some h
       have hn := Nat.le_of_ble_eq_true hle
       have hat : argTypes = #[t] := by cases argTypes; simp at ht; simp [ht]
       have har : args = #[x] := by cases args; simp at hx; simp [hx]
       subst hat har
       obtain ⟨q, cap, _, ex⟩ := getSl_rel hg hsl
       refine ⟨.int .i64 n, ?_, rfl, .i .i64, rfl, n, rfl, ?_⟩
       ·simp [execOp, resolve, invoke, builtin, Builtin.len_, run_underlying hu, goInt, ex]
       ·constructor
        ·have : IntKind.i64.min ≤ 0 := by decide
         omega
        ·have : (1000000 : Int) ≤ IntKind.i64.max := by decide
         omega
      ·simp [Tree.den] at h
     ·simp [Tree.den] at h
    ·simp [Tree.den] at h
   ·simp [Tree.den] at h
  ·simp [Tree.den] at h
 ·simp [Tree.den] at h
end whole
end
end Go.Proofs.YtdioaiepkhepaaaGreatDoor
namespace Go.Proofs.YtdioaiepkhepaaaGreatDoor
open Go.RowKit
theorem addr_add_add (a : Addr) (i j : Nat) : (a.add i).add j = a.add (i + j) := by
 unfold Addr.add
 by_cases hi : i = 0
 ·subst hi; simp
 ·by_cases hj : j = 0
  ·subst hj; simp
  ·have : i + j ≠ 0 := by omega
   simp [hi, hj, Nat.add_assoc]
theorem addr_add_zero (a : Addr) : a.add 0 = a := by simp [Addr.add]
section
variable {P : Program} {w : World} {ρ : Rho}
theorem caps_rd {x : SE} {cs : List Value} (hx : x.den = .agg cs.toArray) : ∀ {κs : List SK} {j : Nat} {us : List Value}, κs.all isQ = true → RdKs ρ.m κs us (cs.drop j) → CapsRel ρ (capsK x j κs) us
 | [], _, us, _, h => by simp only [RdKs] at h; rw [h.1]; trivial
 | κ :: κs, j, us, hq, h => by
  simp only [List.all_cons, Bool.and_eq_true] at hq
  simp only [RdKs] at h
  obtain ⟨v, us, d, es, rfl, e2, q1, q2⟩ := h
  have hlt : j < cs.length := by
   rcases Nat.lt_or_ge j cs.length with q | q
   ·exact q
   ·rw [List.drop_of_length_le q] at e2; cases e2
  rw [List.drop_eq_getElem_cons hlt] at e2
  simp only [List.cons.injEq] at e2
  obtain ⟨rfl, rfl⟩ := e2
  refine ⟨?_, caps_rd hx hq.2 q2⟩
  have hden : (SE.app 1000013 capF j κ [x]).den = cs[j] := by
   simp only [SE.den, denL, capF, hx, els]
   simp [List.getD, hlt, q1.kind.norm]
  cases κ with
  | q κs' =>
   have q0 := q1
   simp only [RdK] at q1
   obtain ⟨a, us', cs', rfl, _⟩ := q1
   exact ⟨κs', a, rfl, by simp [Addr.add], by rw [hden]; exact q0⟩
  | _ => simp [isQ] at hq
theorem cellK_rel {κ : SK} {x : SE} {v : Value} (hk : x.kind = some κ) (h : RdK ρ.m κ v x.den) : CRel ρ (cellK κ x) v := by
 cases κ with
 | f n κs =>
  simp only [RdK] at h
  obtain ⟨us, cs, rfl, hd, hq, hr⟩ := h
  exact ⟨us, caps_rd hd hq (by simpa using hr), rfl⟩
 | l κs => exact ⟨κs, hk, h⟩
 | q κs =>
  have h0 := h
  simp only [RdK] at h
  obtain ⟨a, us, cs, rfl, _⟩ := h
  exact ⟨κs, a, hk, by rw [addr_add_zero], h0⟩
 | i k => obtain ⟨e, h⟩ := (RdK_pl (κ := .i k) rfl).1 h; exact ⟨e, .i k, hk, by rw [e]; exact h⟩
 | b => obtain ⟨e, h⟩ := (RdK_pl (κ := .b) rfl).1 h; exact ⟨e, .b, hk, by rw [e]; exact h⟩
 | s => obtain ⟨e, h⟩ := (RdK_pl (κ := .s) rfl).1 h; exact ⟨e, .s, hk, by rw [e]; exact h⟩
 | o => obtain ⟨e, h⟩ := (RdK_pl (κ := .o) rfl).1 h; exact ⟨e, .o, hk, by rw [e]; exact h⟩
theorem apps_rd {f : Nat} {F : List Value → List Value} {xs : List SE} : ∀ {κs : List SK} {j : Nat} {us ds rest : List Value}, (F (denL xs)).drop j = ds ++ rest → RdKs ρ.m κs us ds → CsRel ρ (appsS f F xs j κs) us
 | [], _, _, _, _, _, h => by simp only [RdKs] at h; rw [h.1]; trivial
 | κ :: κs, j, us, ds, rest, hd, h => by
  simp only [RdKs] at h
  obtain ⟨v, us, d, es, rfl, rfl, q1, q2⟩ := h
  have hlt : j < (F (denL xs)).length := by
   rcases Nat.lt_or_ge j (F (denL xs)).length with q | q
   ·exact q
   ·rw [List.drop_of_length_le q] at hd; cases hd
  rw [List.drop_eq_getElem_cons hlt] at hd
  simp only [List.cons_append, List.cons.injEq] at hd
  refine ⟨cellK_rel rfl ?_, apps_rd hd.2 q2⟩
  simp only [SE.den]
  rw [List.getD, List.getElem?_eq_getElem hlt]
  simp only [Option.getD_some]
  rw [hd.1, q1.kind.norm]
  exact q1
theorem els_agg (es : List Value) : els (.agg es.toArray) = es := by simp [els]
theorem loadQ_sound (hm : ∀ a v, ρ.m a = some v → w.cell? a = some v) {t : TypeId} {y : SE} {off : Nat} {v : Value} (hq : QRel ρ y off v) {r : Res} (h : (loadQ P t y off).den = some r) :
 ∃ a sv u, v = .pointer (some a) ∧ r = .val sv ∧ (loadVar t a).run P w = .ok u w ∧ VRel ρ sv u := by
 obtain ⟨κs, a, hk, rfl, hr⟩ := hq
 unfold loadQ at h
 simp only [hk] at h
 simp only [RdK] at hr
 obtain ⟨a', us, cs, ea, ed, hc, hrs⟩ := hr
 obtain rfl : a = a' := by simpa using ea
 have hF : qF (denL [y]) = cs := by simp only [denL, qF, ed]; exact els_agg cs
 have hl := hrs.length
 split at h
 ·rename_i n ha hs
  split at h
  ·rename_i hle
   have hle := Nat.le_of_ble_eq_true hle
   simp [Tree.den] at h
   subst h
   have hrs' := (hrs.drop off).take n
   have hlen : ((us.drop off).take n).length = n := by simp; omega
   refine ⟨_, _, .agg ((us.drop off).take n).toArray, rfl, rfl, ?_, ⟨_, rfl, apps_rd (f := 2000000) (F := qF) (xs := [y]) (j := off) (ds := (cs.drop off).take n) (rest := (cs.drop off).drop n) (by rw [hF, List.take_append_drop]) hrs'⟩⟩
   have hld := run_loadCells_list (P := P) w (a.add off) ((us.drop off).take n) (fun j v hj => by
    rw [addr_add_add]
    rw [List.getElem?_take] at hj
    split at hj
    ·rw [List.getElem?_drop] at hj; exact hm _ _ (hc _ _ hj)
    ·simp at hj)
   rw [hlen] at hld
   simp only [loadVar, Sem.run_bind, run_agg ha, run_size hs, Result.andThen_ok, if_true, Sem.run_pure, hld]
  ·simp [Tree.den] at h
 ·rename_i hagg
  split at h
  ·rename_i κ hκ
   simp [Tree.den] at h
   subst h
   obtain ⟨u, d, hu, hd, hrd⟩ := hrs.get hκ
   refine ⟨_, _, u, rfl, rfl, ?_, cellK_rel rfl ?_⟩
   ·have hcu := hm _ _ (hc _ _ hu)
    simp [loadVar, run_agg hagg, hcu]
   ·simp only [SE.den, hF]
    rw [List.getD, hd]
    simp only [Option.getD_some]
    rw [hrd.kind.norm]
    exact hrd
  ·simp [Tree.den] at h
 ·simp [Tree.den] at h
theorem fieldC_sound {o : Oper} {s : TypeId} {x : Operand} {f : Nat} (ho : o.op = .fieldAddr s x f) {e : Operand → Value} {a : Addr} (hx : e x = .pointer (some a)) {mk : Nat → SC} {r : Res} (h : (fieldC P s f mk).den = some r)
 (hmk : ∀ off, CRel ρ (mk off) (.pointer (some (a.add off)))) : ∃ sv, r = .val sv ∧ ∃ v, (execOp e o).run P w = .ok (.value v) w ∧ VRel ρ sv v := by
 unfold fieldC at h
 split at h
 ·rename_i fs hu
  split at h
  ·rename_i fl hf
   split at h
   ·rename_i m hs
    simp [Tree.den] at h
    subst h
    refine ⟨_, rfl, .pointer (some (a.add fl.offset)), ?_, hmk _⟩
    simp [execOp, ho, Instr.fieldAt, run_underlying hu, hf, hx, Instr.sureAddr, fieldPlace, run_size hs]
   ·simp [Tree.den] at h
  ·simp [Tree.den] at h
 ·simp [Tree.den] at h
theorem QRel.ptr {x : SE} {off : Nat} {v : Value} (h : QRel ρ x off v) : ∃ a, v = .pointer (some a) ∧ ∀ o, QRel ρ x (off + o) (.pointer (some (a.add o))) := by
 obtain ⟨κs, a, h1, rfl, h3⟩ := h
 exact ⟨_, rfl, fun o => ⟨κs, a, h1, by rw [addr_add_add], h3⟩⟩
theorem kind_den_int {x : SE} {v : Value} {k : IntKind} (h : CRel ρ (.e x) v) (hk : x.kind = some (.i k)) : v = .int k (num x.den) ∧ x.den = .int k (num x.den) := by
 obtain ⟨n, e1, e2, _⟩ := erel_int h hk
 rw [e2, e1]
 exact ⟨rfl, rfl⟩
theorem elem_rel {κs : List SK} {y i : SE} {p : Option Addr} {n cap : Nat} (h : RdK ρ.m (.l κs) (.slice p n cap) y.den) {k : Nat} (hi : num i.den = (k : Int)) (hk : k < n) :
 ∃ a, p = some a ∧ QRel ρ (elemE κs y i) 0 (.pointer (some (a.add (k * κs.length)))) := by
 simp only [RdK] at h
 obtain ⟨p', n', cap', es, e1, e2, e3, e4, _, _, hh⟩ := h
 simp only [Value.slice.injEq] at e1
 obtain ⟨rfl, rfl, rfl⟩ := e1
 have hlt : k < es.length := by omega
 obtain ⟨a, us, cs, q1, q2, q3, q4⟩ := hh k _ (List.getElem?_eq_getElem hlt)
 refine ⟨a, q1, κs, a.add (k * κs.length), rfl, by rw [addr_add_zero], ?_⟩
 have hden : (elemE κs y i).den = .agg cs.toArray := by
  simp only [elemE, SE.den, denL, ixQ, e2, els_agg, norm, hi]
  simp [List.getD, hlt, q2]
 rw [hden]
 simp only [RdK]
 exact ⟨_, us, cs, rfl, rfl, fun j u hj => q3 j u hj, q4⟩
theorem take_rel {κs : List SK} {y h : SE} {p : Option Addr} {n cap : Nat} (hr : RdK ρ.m (.l κs) (.slice p n cap) y.den) {k : Nat} (hi : num h.den = (k : Int)) (hk : k ≤ n) :
 RdK ρ.m (.l κs) (.slice p k cap) (takeE κs y (some h)).den := by
 simp only [RdK] at hr ⊢
 obtain ⟨p', n', cap', es, e1, e2, e3, e4, e5, e6, hh⟩ := hr
 simp only [Value.slice.injEq] at e1
 obtain ⟨rfl, rfl, rfl⟩ := e1
 refine ⟨p, k, cap, es.take k, rfl, ?_, by simp; omega, by omega, by omega, e6, fun i e he => ?_⟩
 ·simp only [takeE, SE.den, denL, tkF, e2, els_agg, norm, hi]
  simp
 ·rw [List.getElem?_take] at he
  split at he
  ·exact hh i e he
  ·simp at he
theorem run_sliceH {t el sz : Nat} (hu : P.underlying t = some (.slice el)) (hs : sizeT P el = some sz) (a : Option Addr) (len cap : Nat) {k : IntKind} {h : Int} (h0 : 0 ≤ h) (h2 : h ≤ cap) :
 (Instr.sliceAt t (.slice a len cap) none (some (.int k h)) none).run P w = .ok (.slice a h.toNat cap) w := by
 have e : (if cap = 0 then a else a.map fun x => x.add 0) = a := by
  split
  ·rfl
  ·cases a <;> simp [Addr.add]
 simp [Instr.sliceAt, run_underlying hu, Instr.slice, Instr.sliceBounds, run_sliceBound, h0, h2, run_size hs, e]
variable {g : Get} {e : Operand → Value} (hg : ∀ x sv, g x = some sv → VRel ρ sv (e x))
include hg
theorem getC_rel {x : Operand} {c : SC} (h : getC g x = some c) : CRel ρ c (e x) := by
 unfold getC at h
 split at h
 ·rename_i y hy; simp at h; subst h; exact hg x _ hy
 ·simp at h
omit hg in
theorem nilEq_spec {a b : SC} {r : Bool} {u v : Value} (h : nilEq a b = some r) (ha : CRel ρ a u) (hb : CRel ρ b v) : ∃ p q, u = .pointer p ∧ v = .pointer q ∧ (p == q) = r ∧ (p = none ∨ q = none) := by
 have ref : ∀ {c : SC} {x : Value}, isRefC c = true → CRel ρ c x → ∃ p, x = .pointer (some p) := by
  intro c x hc hr
  cases c <;> simp [isRefC] at hc
  ·obtain ⟨n, _, rfl⟩ := hr; exact ⟨_, rfl⟩
  ·obtain ⟨κs, a, _, rfl, _⟩ := hr; exact ⟨_, rfl⟩
  ·obtain ⟨A, g, j, _, _, _, _, rfl⟩ := hr; exact ⟨_, rfl⟩
 unfold nilEq at h
 split at h
 ·simp at h; subst h; cases ha; cases hb; exact ⟨none, none, rfl, rfl, rfl, .inl rfl⟩
 ·split at h
  ·rename_i hc; simp at h; subst h; cases ha; obtain ⟨p, rfl⟩ := ref hc hb; exact ⟨none, some p, rfl, rfl, rfl, .inl rfl⟩
  ·simp at h
 ·split at h
  ·rename_i hc; simp at h; subst h; cases hb; obtain ⟨p, rfl⟩ := ref hc ha; exact ⟨some p, none, rfl, rfl, rfl, .inr rfl⟩
  ·simp at h
 ·simp at h
theorem ro_sound (hm : ∀ a v, ρ.m a = some v → w.cell? a = some v) {o : Oper} {t : Tree Res} (ht : roStep P g o.op = some t) {r : Res} (h : t.den = some r) :
 ∃ sv, r = .val sv ∧ ∃ v, (execOp e o).run P w = .ok (.value v) w ∧ VRel ρ sv v := by
 have fl : ∀ {q : Prop}, (Tree.fail : Tree Res).den = some r → q := fun h => by simp [Tree.den] at h
 have vl : ∀ {x : SE} {v : Value}, (vE x).den = some r → (execOp e o).run P w = .ok (.value v) w → CRel ρ (.e x) v → ∃ sv, r = .val sv ∧ ∃ v, (execOp e o).run P w = .ok (.value v) w ∧ VRel ρ sv v := fun h hr hv => ⟨_, vE_some h, _, hr, hv⟩
 obtain ⟨dst, op, type, pos, after, guard⟩ := o
 simp only at ht
 unfold roStep at ht
 split at ht
 ·
  rename_i t' x
  split at ht
  ·rename_i y off hx
   simp at ht
   subst ht
   obtain ⟨a, sv, u, ex, er, hl, hv⟩ := loadQ_sound hm (getC_rel hg hx) h
   exact ⟨sv, er, u, by simp [execOp, Instr.loadAt, ex, Instr.sureAddr, hl], hv⟩
  ·cases ht
 ·
  rename_i s x f
  split at ht
  ·rename_i y off hx
   simp at ht
   subst ht
   obtain ⟨a, ex, hq⟩ := (show QRel ρ y off (e x) from getC_rel hg hx).ptr
   exact fieldC_sound rfl ex h hq
  ·rename_i n sz i off hx
   simp at ht
   subst ht
   obtain ⟨A, g', j, h1, h2, h3, h4, ex⟩ := getC_rel hg hx
   exact fieldC_sound rfl ex h fun q => ⟨A, g', j, h1, h2, h3, h4, by rw [addr_add, Nat.add_assoc]⟩
  ·cases ht
 ·
  rename_i t' x i
  split at ht
  ·rename_i y hx
   simp at ht
   subst ht
   obtain ⟨κs0, hk, hr⟩ := getC_rel hg hx
   split at h
   ·rename_i el j κs hu hi hk'
    rw [hk] at hk'
    simp at hk'
    subst hk'
    split at h
    ·rename_i s k hs hj
     split at h
     ·rename_i hbs
      have hbs : s = κs0.length := hbs
      subst hbs
      obtain ⟨h1, h2⟩ := guard_den h
      simp [Tree.den] at h2
      subst h2
      obtain ⟨ei, dj⟩ := kind_den_int (getE_rel hg hi) hj
      have hr0 := hr
      simp only [RdK] at hr0
      obtain ⟨p, n, cap, es, ex, ed, el', en, ec, _, _⟩ := hr0
      simp only [denL, ixB, ed, els_agg, List.getD_cons_zero, tru, Bool.and_eq_true, decide_eq_true_eq] at h1
      rw [ex] at hr
      have hki : num j.den = ((num j.den).toNat : Int) := by omega
      obtain ⟨a, hp, hq⟩ := elem_rel (i := j) hr hki (by omega)
      refine ⟨_, rfl, _, ?_, hq⟩
      subst hp
      have b1 : 0 ≤ num j.den := h1.1
      have b2 : num j.den < (n : Int) := by omega
      simp [execOp, Instr.indexAt, run_underlying hu, ex, ei, asIntOf, b1, b2, run_size hs]
     ·exact fl h
    ·exact fl h
   ·exact fl h
  ·rename_i y off hx
   simp at ht
   subst ht
   obtain ⟨a, ex, hq⟩ := (show QRel ρ y off (e x) from getC_rel hg hx).ptr
   split at h
   ·rename_i len el j hu hi
    split at h
    ·rename_i s hs
     obtain ⟨k, m, ei, hm', hr⟩ := atI_den (getE_rel hg hi) h
     simp [Tree.den] at hr
     subst hr
     refine ⟨_, rfl, .pointer (some (a.add (m * s))), ?_, hq _⟩
     simp [execOp, Instr.indexAt, run_underlying hu, ex, ei, asIntOf, Instr.sureAddr, hm', run_size hs]
    ·exact fl h
   ·exact fl h
  ·cases ht
 ·
  rename_i c
  obtain ⟨callee, args, argTypes⟩ := c
  simp only at ht
  split at ht
  ·split at ht
   ·rename_i t' x hat har
    have hat : argTypes = #[t'] := by cases argTypes; simp at hat; simp [hat]
    have har : args = #[x] := by cases args; simp at har; simp [har]
    subst hat har
    split at ht
    ·rename_i y hx
     simp at ht
     subst ht
     obtain ⟨κs0, hk, hr⟩ := getC_rel hg hx
     split at h
     ·rename_i el κs hu hk'
      simp only [RdK] at hr
      obtain ⟨p, n, cap, es, ex, ed, el', en, ec, _, _⟩ := hr
      refine vl (v := .int .i64 n) h ?_ ⟨?_, .i .i64, rfl, n, rfl, ?_⟩
      ·simp [execOp, resolve, invoke, builtin, Builtin.len_, run_underlying hu, goInt, ex]
      ·simp [lenE, SE.den, denL, lnF, ed, els_agg, norm, num, el']
      ·have h1 : IntKind.i64.min ≤ 0 := by decide
       have h2 : (9223372036854775807 : Int) ≤ IntKind.i64.max := by decide
       constructor <;> omega
     ·exact fl h
    ·rename_i z hx
     simp at ht
     subst ht
     obtain ⟨p, ex, _⟩ := getC_rel hg hx
     split at h
     ·rename_i el hu
      refine vl (v := .int .i64 0) h ?_ ⟨rfl, .i .i64, rfl, 0, rfl, by decide, by decide⟩
      simp [execOp, resolve, invoke, builtin, Builtin.len_, run_underlying hu, goInt, ex]
     ·exact fl h
    ·cases ht
   ·cases ht
  ·cases ht
 ·
  rename_i op t' x y yt
  split at ht
  ·rename_i a b ha hb
   split at ht
   ·rename_i c hc
    simp at ht
    subst ht
    obtain ⟨p, q, ep, eq, hpq, hn⟩ := nilEq_spec (ρ := ρ) hc (getC_rel hg ha) (getC_rel hg hb)
    have run : ∀ el, P.underlying t' = some (.pointer el) → ∀ d, (Op.equalIn (d + 1) t' (.pointer p) (.pointer q)).run P w = .ok c w := by
     intro el hu d
     rcases hn with rfl | rfl
     ·rw [← hpq]
      cases q <;> simp [Op.equalIn, run_underlying hu]
     ·rw [← hpq]
      cases p <;> simp [Op.equalIn, run_underlying hu]
    split at h
    ·rename_i el hu
     refine vl (v := .bool c) h ?_ ⟨rfl, .b, rfl, _, rfl⟩
     have h9 : (Op.equal t' (.pointer p) (.pointer q)).run P w = .ok c w := run el hu 9999
     simp [execOp, ep, eq, eqGuard, binOp, h9]
    ·rename_i el hu
     refine vl (v := .bool (!c)) h ?_ ⟨rfl, .b, rfl, _, rfl⟩
     have h9 : (Op.equal t' (.pointer p) (.pointer q)).run P w = .ok c w := run el hu 9999
     simp [execOp, ep, eq, eqGuard, binOp, h9]
    ·exact fl h
   ·split at ht
    ·rename_i y0 _
     simp at ht
     subst ht
     obtain ⟨κs0, hk, hr⟩ := getC_rel hg ha
     obtain ⟨p2, eb, hp2⟩ := getC_rel hg hb
     have hp2 := hp2 rfl
     subst hp2
     simp only [RdK] at hr
     obtain ⟨p, n, cap, es, ex, ed, el', en, ec, h0, _⟩ := hr
     have main : ∀ {r2 : Bool}, (Tree.ite (.app 1000002 ixB 0 .b [y0, .lit (.int .i64 0)]) (vE (.lit (.bool r2))) .fail).den = some r → (∃ a, p = some a) ∧ (vE (.lit (.bool r2))).den = some r := fun h => by
      obtain ⟨h1, h2⟩ := guard_den h
      refine ⟨?_, h2⟩
      simp only [denL, ixB, ed, els_agg, List.getD_cons_zero, tru, Bool.and_eq_true, decide_eq_true_eq, SE.den, num] at h1
      cases p with
      | some a => exact ⟨a, rfl⟩
      | none => have := h0 rfl; omega
     split at h
     ·rename_i el κs hu hk'
      obtain ⟨⟨a, rfl⟩, h2⟩ := main h
      refine vl (v := .bool false) h2 ?_ ⟨rfl, .b, rfl, _, rfl⟩
      have h8 : ∀ d, (Op.equalIn (d + 1) t' (.slice (some a) n cap) (.slice none 0 0)).run P w = .ok false w := fun d => by simp [Op.equalIn, run_underlying hu]
      have h9 : (Op.equal t' (.slice (some a) n cap) (.slice none 0 0)).run P w = .ok false w := h8 9999
      simp [execOp, ex, eb, eqGuard, binOp, h9]
     ·rename_i el κs hu hk'
      obtain ⟨⟨a, rfl⟩, h2⟩ := main h
      refine vl (v := .bool true) h2 ?_ ⟨rfl, .b, rfl, _, rfl⟩
      have h8 : ∀ d, (Op.equalIn (d + 1) t' (.slice (some a) n cap) (.slice none 0 0)).run P w = .ok false w := fun d => by simp [Op.equalIn, run_underlying hu]
      have h9 : (Op.equal t' (.slice (some a) n cap) (.slice none 0 0)).run P w = .ok false w := h8 9999
      simp [execOp, ex, eb, eqGuard, binOp, h9]
     ·exact fl h
    ·cases ht
  ·cases ht
 ·
  rename_i t' x lo hi mx
  split at ht
  ·rename_i y hx
   simp at ht
   subst ht
   obtain ⟨κs0, hk, hr⟩ := getC_rel hg hx
   split at h
   ·rename_i el κs hh hu hk'
    rw [hk] at hk'
    simp at hk'
    subst hk'
    split at h
    ·rename_i hs sz hgh hsz
     split at h
     ·rename_i k hj
      obtain ⟨h1, h2⟩ := guard_den h
      simp [Tree.den] at h2
      subst h2
      obtain ⟨ei, dj⟩ := kind_den_int (getE_rel hg hgh) hj
      have hr0 := hr
      simp only [RdK] at hr0
      obtain ⟨p, n, cap, es, ex, ed, el', en, ec, _, _⟩ := hr0
      simp only [denL, tkB, ed, els_agg, List.getD_cons_zero, tru, Bool.and_eq_true, decide_eq_true_eq] at h1
      rw [ex] at hr
      have hki : num hs.den = ((num hs.den).toNat : Int) := by omega
      refine ⟨_, rfl, _, ?_, κs0, rfl, take_rel hr hki (by omega)⟩
      simp only [execOp, ex, ei, Option.map_none, Option.map_some, run_sliceH hu hsz p n cap h1.1 (show num hs.den ≤ (cap : Int) by omega), Sem.run_bind, Result.andThen_ok, Sem.run_pure]
     ·exact fl h
    ·exact fl h
   ·exact fl h
  ·cases ht
 ·
  rename_i x
  split at ht
  ·rename_i y off hx
   simp at ht
   subst ht
   have hr := getC_rel hg hx
   obtain ⟨a, ex, hq⟩ := (show QRel ρ y off (e x) from hr).ptr
   simp [Tree.den] at h
   exact ⟨_, h.symm, e x, by simp [execOp, ex], hr⟩
  ·rename_i n sz i off hx
   simp at ht
   subst ht
   have hr := getC_rel hg hx
   obtain ⟨A, g', j, h1, h2, h3, h4, ex⟩ := hr
   simp [Tree.den] at h
   exact ⟨_, h.symm, e x, by simp [execOp, ex], getC_rel hg hx⟩
  ·cases ht
 ·cases ht
end
end Go.Proofs.YtdioaiepkhepaaaGreatDoor
namespace Go.Proofs.YtdioaiepkhepaaaGreatDoor
open Go.RowKit
theorem KindsL.len : ∀ {κs : List SK} {vs : List Value}, KindsL κs vs → vs.length = κs.length
 | [], _, h => by simp only [KindsL] at h; simp [h]
 | _ :: _, _, h => by simp only [KindsL] at h; obtain ⟨v, us, rfl, _, k⟩ := h; simp [KindsL.len k]
theorem Flat.length {κs : List SK} : ∀ {es us : List Value}, Flat κs us es → us.length = es.length * κs.length
 | [], us, h => by simp only [Flat] at h; simp [h]
 | e :: es, us, h => by
  simp only [Flat] at h
  obtain ⟨cs, r, rfl, _, hk, hf⟩ := h
  simp only [List.length_append, hk.len, Flat.length hf, List.length_cons, Nat.add_mul, Nat.one_mul]
  omega
theorem Flat.get {κs : List SK} : ∀ {es us : List Value} {i : Nat} {e : Value}, Flat κs us es → es[i]? = some e → ∃ cs : List Value, e = .agg cs.toArray ∧ KindsL κs cs ∧ ∀ j u, cs[j]? = some u → us[i * κs.length + j]? = some u
 | [], _, i, e, _, hi => by simp at hi
 | e0 :: es, us, i, e, h, hi => by
  simp only [Flat] at h
  obtain ⟨cs, r, rfl, rfl, hk, hf⟩ := h
  cases i with
  | zero =>
   simp at hi
   subst hi
   refine ⟨cs, rfl, hk, fun j u hj => ?_⟩
   have hlt : j < cs.length := (List.getElem?_eq_some_iff.1 hj).1
   rw [Nat.zero_mul, Nat.zero_add, List.getElem?_append_left hlt]
   exact hj
  | succ i =>
   obtain ⟨ds, e1, e2, e3⟩ := Flat.get hf (by simpa using hi)
   refine ⟨ds, e1, e2, fun j u hj => ?_⟩
   have hl := hk.len
   rw [List.getElem?_append_right (by rw [hl, Nat.add_mul, Nat.one_mul]; omega)]
   rw [show (i + 1) * κs.length + j - cs.length = i * κs.length + j by rw [hl, Nat.add_mul, Nat.one_mul]; omega]
   exact e3 j u hj
theorem Flat.of_get {κs : List SK} : ∀ {es us : List Value}, us.length = es.length * κs.length → (∀ i e, es[i]? = some e → ∃ cs : List Value, e = .agg cs.toArray ∧ KindsL κs cs ∧ ∀ j u, cs[j]? = some u → us[i * κs.length + j]? = some u) → Flat κs us es
 | [], us, hl, _ => by simp only [Flat]; simpa using hl
 | e :: es, us, hl, h => by
  simp only [List.length_cons, Nat.add_mul, Nat.one_mul] at hl
  obtain ⟨cs, e1, e2, e3⟩ := h 0 e rfl
  simp only [Flat]
  refine ⟨cs, us.drop κs.length, ?_, e1, e2, Flat.of_get (by simp; omega) fun i e' hi => ?_⟩
  ·have : us.take κs.length = cs := by
    apply List.ext_getElem?
    intro j
    rw [List.getElem?_take]
    have hcl := e2.len
    split
    ·rename_i hj
     have := e3 j _ (List.getElem?_eq_getElem (by omega))
     rw [Nat.zero_mul, Nat.zero_add] at this
     rw [this, List.getElem?_eq_getElem (by omega)]
    ·rw [List.getElem?_eq_none (by omega)]
   rw [← this, List.take_append_drop]
  ·obtain ⟨ds, q1, q2, q3⟩ := h (i + 1) e' (by simpa using hi)
   refine ⟨ds, q1, q2, fun j u hj => ?_⟩
   rw [List.getElem?_drop]
   rw [show κs.length + (i * κs.length + j) = (i + 1) * κs.length + j by rw [Nat.add_mul, Nat.one_mul]; omega]
   exact q3 j u hj
theorem Flat.take {κs : List SK} {es us : List Value} (h : Flat κs us es) (k : Nat) (hk : k ≤ es.length) : Flat κs (us.take (k * κs.length)) (es.take k) := by
 have hl := h.length
 have hle : k * κs.length ≤ es.length * κs.length := Nat.mul_le_mul_right _ hk
 refine Flat.of_get (by simp only [List.length_take, hl]; rw [Nat.min_eq_left hk, Nat.min_eq_left hle]) fun i e hi => ?_
 rw [List.getElem?_take] at hi
 split at hi
 ·rename_i hik
  obtain ⟨cs, q1, q2, q3⟩ := h.get hi
  refine ⟨cs, q1, q2, fun j u hj => ?_⟩
  have hj' : j < cs.length := (List.getElem?_eq_some_iff.1 hj).1
  have : i * κs.length + j < k * κs.length := by
   have h1 : (i + 1) * κs.length ≤ k * κs.length := Nat.mul_le_mul_right _ hik
   rw [Nat.add_mul, Nat.one_mul] at h1
   have := q2.len
   omega
  rw [List.getElem?_take, if_pos this]
  exact q3 j u hj
 ·simp at hi
theorem Flat.append {κs : List SK} : ∀ {es us ds vs : List Value}, Flat κs us es → Flat κs vs ds → Flat κs (us ++ vs) (es ++ ds)
 | [], us, ds, vs, h, k => by simp only [Flat] at h; simpa [h] using k
 | e :: es, us, ds, vs, h, k => by
  simp only [Flat] at h
  obtain ⟨cs, r, rfl, e1, e2, e3⟩ := h
  simp only [List.cons_append, Flat]
  exact ⟨cs, r ++ vs, by simp, e1, e2, e3.append k⟩
theorem Flat.one {κs : List SK} {cs : List Value} (h : KindsL κs cs) : Flat κs cs [.agg cs.toArray] := by
 simp only [Flat]
 exact ⟨cs, [], by simp, rfl, h, rfl⟩
theorem KindsL.ones : ∀ {κs : List SK} {vs : List Value}, κs.all isPl = true → KindsL κs vs → ∀ u ∈ vs, u.oneCell' = true
 | [], _, _, h => by simp only [KindsL] at h; simp [h]
 | κ :: κs, _, hp, h => by
  simp only [KindsL] at h
  obtain ⟨v, us, rfl, q1, q2⟩ := h
  simp only [List.all_cons, Bool.and_eq_true] at hp
  intro u hu
  rcases List.mem_cons.1 hu with rfl | hu
  ·exact ((inKind_pl hp.1).1 q1).one
  ·exact KindsL.ones hp.2 q2 u hu
theorem Flat.ones {κs : List SK} (hp : κs.all isPl = true) : ∀ {es us : List Value}, Flat κs us es → ∀ u ∈ us, u.oneCell' = true
 | [], us, h => by simp only [Flat] at h; simp [h]
 | e :: es, us, h => by
  simp only [Flat] at h
  obtain ⟨cs, r, rfl, _, hk, hf⟩ := h
  intro u hu
  rcases List.mem_append.1 hu with hu | hu
  ·exact hk.ones hp u hu
  ·exact hf.ones hp u hu
theorem takeE_kind {κs : List SK} {c : SE} (hc : c.kind = some (.l κs)) (k : Option SE) : (takeE κs c k).kind = some (.l κs) := by
 cases k with
 | none => exact hc
 | some _ => rfl
theorem takeE_den {κs : List SK} {c : SE} {es : List Value} (hd : c.den = .agg es.toArray) {k : Option SE} {L : Nat} (h0 : k = none → L = es.length) (h1 : ∀ x, k = some x → num x.den = (L : Int)) : (takeE κs c k).den = .agg (es.take L).toArray := by
 cases k with
 | none => simp [takeE, hd, h0 rfl]
 | some x =>
  simp only [takeE, SE.den, denL, tkF, hd, els_agg, norm, h1 x rfl]
  simp
section
variable {P : Program} {w : World} {ρ : Rho}
theorem ownsRow_take {e sz : Nat} {g : Option Nat} {cap n : Nat} {us : List Value} (h : w.ownsRow 0 e sz (.slice (g.map fun g => ⟨g, 0, none⟩) n cap) n us) {L : Nat} (hL : L ≤ n) :
 w.ownsRow 0 e sz (.slice (g.map fun g => ⟨g, 0, none⟩) L cap) L (us.take (L * sz)) := by
 obtain ⟨h1, h2⟩ := h
 have hle : L * sz ≤ n * sz := Nat.mul_le_mul_right _ hL
 refine ⟨by rw [List.length_take, h1, Nat.min_eq_left hle], ?_⟩
 rcases h2 with ⟨e1, e2⟩ | ⟨g', cap', cur, e1, e2, e3, e4, e5, e6, e7⟩
 ·simp only [Value.slice.injEq] at e1
  obtain ⟨q1, q2, q3⟩ := e1
  have : L = 0 := by omega
  subst this
  exact .inl ⟨by rw [q1, q3], rfl⟩
 ·simp only [Value.slice.injEq, true_and] at e1
  obtain ⟨q1, rfl⟩ := e1
  refine .inr ⟨g', cap, cur, by rw [q1], e2, e3, by omega, e5, e6, ?_⟩
  rw [← e7, List.take_take, Nat.min_eq_left hle]
theorem ArrOK.read {κs : List SK} {c : SE} {t : TypeId} {A : ArrV} (h : ArrOK κs c t A w) {n : Nat} {k : Option SE} {v : Value} (hn : ρ.a n = some A) (hv : ARel ρ n k v) {m : Addr → Option Value} (hm : ∀ g, A.g = some g → ∀ a : Addr, a.block = g → ∀ u, w.cell? a = some u → m a = some u) :
 RdK m (.l κs) v (takeE κs c k).den ∧ (takeE κs c k).kind = some (.l κs) := by
 obtain ⟨es, us, hk, hp, hd, hl, hz, hlc, hcm, hf, how⟩ := h
 obtain ⟨A', L, hn', _, _, _, hL, h0, h1, rfl⟩ := hv
 rw [hn] at hn'
 obtain rfl : A = A' := by simpa using hn'
 refine ⟨?_, takeE_kind hk k⟩
 simp only [RdK]
 refine ⟨_, L, A.cap, es.take L, rfl, takeE_den hd (fun e => by rw [h0 e, hl]) h1, by simp; omega, by simp [maxLen] at hcm; omega, by omega, fun e => ?_, fun i e hi => ?_⟩
 ·cases hg : A.g with
  | none => exact hz hg
  | some g => rw [hg] at e; cases e
 ·rw [List.getElem?_take] at hi
  split at hi
  ·rename_i hiL
   have hil : i < es.length := (List.getElem?_eq_some_iff.1 hi).1
   obtain ⟨cs, q1, q2, q3⟩ := hf.get hi
   obtain ⟨_, how⟩ := how
   rcases how with ⟨e1, e2⟩ | ⟨g, cap, cur, e1, e2, e3, e4, e5, e6, e7⟩
   ·omega
   ·simp only [Value.slice.injEq, true_and] at e1
    obtain ⟨eg, rfl⟩ := e1
    cases hg : A.g with
    | none => rw [hg] at eg; cases eg
    | some g' =>
     rw [hg] at eg
     simp at eg
     subst eg
     refine ⟨⟨g', 0, none⟩, cs, cs, rfl, q1, fun j u hj => ?_, RdKs.of_plain hp q2⟩
     have hc := q3 j u hj
     rw [addr_add, addr_add, Nat.zero_add]
     refine hm g' hg _ rfl u ?_
     rw [cell_of_row w g' _ cur t (0, 0) e3]
     rw [← e7, List.getElem?_take] at hc
     split at hc
     ·simpa using hc
     ·simp at hc
  ·simp at hi
theorem getAr_spec {H : List (Nat × Blk)} {n : Nat} {b : Blk} {κs : List SK} {c : SE} (h : getAr H n = some (b, κs, c)) : find H n = some b ∧ b.arr = some (κs, c) := by
 unfold getAr at h
 split at h
 ·rename_i b' hf
  split at h
  ·rename_i hb
   simp at h
   obtain ⟨rfl, rfl, rfl⟩ := h
   exact ⟨hf, hb⟩
  ·simp at h
 ·simp at h
theorem appsS_pl {ρ' : Rho} {f : Nat} {F : List Value → List Value} {xs : List SE} : ∀ {κs : List SK} {j : Nat} {us : List Value}, κs.all isPl = true → CsRel ρ' (appsS f F xs j κs) us → CsRel ρ (appsS f F xs j κs) us
 | [], _, us, _, h => by
  cases us with
  | nil => trivial
  | cons _ _ => exact h.elim
 | κ :: κs, j, us, hp, h => by
  simp only [List.all_cons, Bool.and_eq_true] at hp
  cases us with
  | nil => exact h.elim
  | cons u us =>
   refine ⟨?_, appsS_pl hp.2 h.2⟩
   have := h.1
   cases κ <;> first | exact this | (simp [isPl] at hp; done)
theorem cellK_pl {ρ' : Rho} {κ : SK} {x : SE} {v : Value} (hp : isPl κ = true) (h : CRel ρ' (cellK κ x) v) : CRel ρ (cellK κ x) v := by
 cases κ <;> first | exact h | (simp [isPl] at hp; done)
theorem loadQ_pl {ρ' : Rho} {t : TypeId} {y : SE} {off : Nat} {κs : List SK} (hk : y.kind = some (.q κs)) (hp : κs.all isPl = true) {r : Res} (h : (loadQ P t y off).den = some r) {sv : SV} (e : r = .val sv) {u : Value} (hv : VRel ρ' sv u) : VRel ρ sv u := by
 subst e
 unfold loadQ at h
 simp only [hk] at h
 split at h
 ·split at h
  ·simp [Tree.den] at h
   subst h
   obtain ⟨vs, e1, e2⟩ := hv
   refine ⟨vs, e1, appsS_pl ?_ e2⟩
   rw [List.all_eq_true] at hp ⊢
   exact fun κ hκ => hp κ (List.mem_of_mem_drop (List.mem_of_mem_take hκ))
  ·simp [Tree.den] at h
 ·split at h
  ·rename_i κ hκ
   simp [Tree.den] at h
   subst h
   exact cellK_pl (List.all_eq_true.1 hp κ (List.mem_of_getElem? hκ)) hv
  ·simp [Tree.den] at h
 ·simp [Tree.den] at h
end
end Go.Proofs.YtdioaiepkhepaaaGreatDoor
namespace Go.Proofs.YtdioaiepkhepaaaGreatDoor
open Go.RowKit
theorem putV_get : ∀ {new l : List Value} {o p : Nat}, (putV l o new)[p]? = if o ≤ p ∧ p < o + new.length then (if p < l.length then new[p - o]? else none) else l[p]?
 | [], l, o, p => by simp [putV]; intro h1 h2; omega
 | c :: new, l, o, p => by
  simp only [putV, putV_get (new := new), List.length_set, List.length_cons]
  by_cases h : o + 1 ≤ p ∧ p < o + 1 + new.length
  ·rw [if_pos h, show p - o = (p - (o + 1)) + 1 by omega, List.getElem?_cons_succ]
   rw [if_pos (show o ≤ p ∧ p < o + (new.length + 1) by omega)]
  ·rw [if_neg h]
   by_cases hp : p = o
   ·subst hp
    rw [if_pos (by omega)]
    by_cases hl : p < l.length
    ·rw [if_pos hl, List.getElem?_set_self hl]; simp
    ·rw [if_neg hl, List.getElem?_eq_none (by simp; omega)]
   ·rw [List.getElem?_set_ne (by omega), if_neg (by omega)]
theorem KindsL.get : ∀ {κs : List SK} {vs : List Value} {i : Nat} {κ : SK}, KindsL κs vs → κs[i]? = some κ → ∃ v, vs[i]? = some v ∧ inKind κ v
 | [], _, i, κ, _, h => by simp at h
 | κ0 :: κs, vs, i, κ, h, hi => by
  simp only [KindsL] at h
  obtain ⟨v, us, rfl, q1, q2⟩ := h
  cases i with
  | zero => simp at hi; subst hi; exact ⟨v, rfl, q1⟩
  | succ i => simpa using KindsL.get q2 (by simpa using hi)
theorem KindsL.of_get : ∀ {κs : List SK} {vs : List Value}, vs.length = κs.length → (∀ (i : Nat) (κ : SK) (v : Value), κs[i]? = some κ → vs[i]? = some v → inKind κ v) → KindsL κs vs
 | [], vs, hl, _ => by simp only [KindsL]; simpa using hl
 | κ :: κs, [], hl, _ => by simp at hl
 | κ :: κs, v :: vs, hl, h => by
  simp only [KindsL]
  exact ⟨v, vs, rfl, h 0 κ v rfl rfl, KindsL.of_get (by simpa using hl) fun i κ' v' h1 h2 => h (i + 1) κ' v' (by simpa using h1) (by simpa using h2)⟩
theorem KindsL.put {κs : List SK} {cs new : List Value} {off : Nat} (h : KindsL κs cs) (hn : KindsL ((κs.drop off).take new.length) new) (hle : off + new.length ≤ κs.length) : KindsL κs (putV cs off new) := by
 have hl := h.len
 refine KindsL.of_get (by rw [putV_length]; exact hl) fun i κ v hi hv => ?_
 rw [putV_get] at hv
 split at hv
 ·rename_i hr
  rw [if_pos (by omega)] at hv
  have : ((κs.drop off).take new.length)[i - off]? = some κ := by
   rw [List.getElem?_take, if_pos (by omega), List.getElem?_drop, show off + (i - off) = i by omega]
   exact hi
  obtain ⟨v', q1, q2⟩ := hn.get this
  rw [hv] at q1
  cases q1
  exact q2
 ·obtain ⟨v', q1, q2⟩ := h.get hi
  rw [hv] at q1
  cases q1
  exact q2
theorem Flat.put {κs : List SK} {es us : List Value} (h : Flat κs us es) {j : Nat} (hj : j < es.length) {cs new : List Value} {off : Nat} (hc : es[j]? = some (.agg cs.toArray)) (hn : KindsL ((κs.drop off).take new.length) new) (hle : off + new.length ≤ κs.length) :
 Flat κs (putV us (j * κs.length + off) new) (es.set j (.agg (putV cs off new).toArray)) := by
 have hul := h.length
 have hin : ∀ i, i < es.length → i * κs.length + κs.length ≤ us.length := fun i hi => by
  have : (i + 1) * κs.length ≤ es.length * κs.length := Nat.mul_le_mul_right _ hi
  rw [Nat.add_mul, Nat.one_mul] at this
  omega
 refine Flat.of_get (by rw [putV_length, hul]; simp) fun i e hi => ?_
 by_cases hij : i = j
 ·subst hij
  rw [List.getElem?_set_self hj] at hi
  simp at hi
  subst hi
  obtain ⟨ds, e1, e2, e3⟩ := h.get hc
  obtain rfl : cs = ds := by simpa using e1
  refine ⟨putV cs off new, rfl, e2.put hn hle, fun q u hq => ?_⟩
  have hql : q < cs.length := by have := (List.getElem?_eq_some_iff.1 hq).1; rwa [putV_length] at this
  have hcl := e2.len
  rw [putV_get] at hq ⊢
  have := hin i hj
  split at hq
  ·rename_i hr
   rw [if_pos (by omega), if_pos (by omega)]
   rw [show i * κs.length + q - (i * κs.length + off) = q - off by omega]
   first | exact hq | (rw [if_pos hql] at hq; exact hq)
  ·rename_i hr
   rw [if_neg (by omega)]
   exact e3 q u hq
 ·rw [List.getElem?_set_ne (fun e => hij e.symm)] at hi
  obtain ⟨ds, e1, e2, e3⟩ := h.get hi
  refine ⟨ds, e1, e2, fun q u hq => ?_⟩
  have hql : q < ds.length := (List.getElem?_eq_some_iff.1 hq).1
  have hcl := e2.len
  rw [putV_get, if_neg ?_]
  ·exact e3 q u hq
  ·intro ⟨h1, h2⟩
   rcases Nat.lt_or_gt_of_ne hij with hlt | hgt
   ·have : (i + 1) * κs.length ≤ j * κs.length := Nat.mul_le_mul_right _ hlt
    rw [Nat.add_mul, Nat.one_mul] at this
    omega
   ·have : (j + 1) * κs.length ≤ i * κs.length := Nat.mul_le_mul_right _ hgt
    rw [Nat.add_mul, Nat.one_mul] at this
    omega
section
variable {P : Program} {w : World} {ρ : Rho}
theorem flat1_sound {κ : SK} {c : SC} {x : SE} {v : Value} {m : Addr → Option Value} (hm : ∀ a u, ρ.m a = some u → m a = some u) (h : flat1 κ c = some x) (hr : CRel ρ c v) : RdK m κ v x.den ∧ x.kind = some κ := by
 unfold flat1 at h
 split at h
 ·rename_i y
  split at h
  ·rename_i κ' hk
   split at h
   ·rename_i hc
    simp only [Bool.and_eq_true] at hc
    obtain rfl := eqSK_eq hc.1
    simp at h
    subst h
    obtain ⟨e, κ2, hk2, hi⟩ := hr
    rw [hk] at hk2
    cases hk2
    exact ⟨(RdK_pl hc.2).2 ⟨e, by rw [← e]; exact hi⟩, hk⟩
   ·simp at h
  ·simp at h
 ·rename_i y
  split at h
  ·rename_i κs κs' hk
   split at h
   ·rename_i hc
    obtain rfl := eqSKs_eq hc
    simp at h
    subst h
    obtain ⟨κ2, hk2, hi⟩ := hr
    rw [hk] at hk2
    cases hk2
    exact ⟨hi.mono hm, hk⟩
   ·simp at h
  ·simp at h
 ·split at h
  ·rename_i z κs
   simp at h
   subst h
   obtain ⟨p, rfl, _⟩ := hr
   refine ⟨?_, rfl⟩
   simp only [RdK]
   exact ⟨p, 0, 0, [], rfl, rfl, rfl, by omega, Nat.le_refl _, fun _ => rfl, fun i e hi => by simp at hi⟩
  ·simp at h
 ·rename_i y off
  split at h
  ·rename_i κs κs' hk
   split at h
   ·rename_i hc
    simp only [Bool.and_eq_true] at hc
    obtain rfl := eqSKs_eq hc.1
    obtain rfl : off = 0 := beq_len hc.2
    simp at h
    subst h
    obtain ⟨κ2, a, hk2, rfl, hi⟩ := hr
    rw [hk] at hk2
    cases hk2
    rw [addr_add_zero]
    exact ⟨hi.mono hm, hk⟩
   ·simp at h
  ·simp at h
 ·simp at h
theorem flat1s_sound {m : Addr → Option Value} (hm : ∀ a u, ρ.m a = some u → m a = some u) : ∀ {κs : List SK} {cs : List SC} {xs : List SE} {vs : List Value}, flat1s κs cs = some xs → CsRel ρ cs vs → RdKs m κs vs (denL xs)
 | [], [], xs, vs, h, hr => by
  simp [flat1s] at h
  subst h
  cases vs with
  | nil => simp [RdKs, denL]
  | cons _ _ => exact hr.elim
 | κ :: κs, c :: cs, xs, vs, h, hr => by
  simp only [flat1s] at h
  split at h
  ·rename_i x r h1 h2
   simp at h
   subst h
   cases vs with
   | nil => exact hr.elim
   | cons v vs =>
    simp only [RdKs, denL]
    exact ⟨v, vs, x.den, denL r, rfl, rfl, (flat1_sound hm h1 hr.1).1, flat1s_sound hm h2 hr.2⟩
  ·simp at h
 | [], _ :: _, _, _, h, _ => by simp [flat1s] at h
 | _ :: _, [], _, _, h, _ => by simp [flat1s] at h
theorem own_block {g : Option Nat} {n cap : Nat} : (Value.slice (g.map fun g => ⟨g, 0, none⟩) n cap).ownBlock = g := by cases g <;> rfl
theorem run_append_ar {t ty el : TypeId} {i : TypeInfo} {z : Value} {sz : Nat} (ht : P.underlying t = some (.slice el)) (hi : P.info? el = some i) (hz : i.zero = some z) (hsize : i.size = sz) (hzs : z.cells.size = sz) (hsz : 0 < sz)
 {g : Option Nat} {L cap : Nat} {us : List Value} (hown : w.ownsRow 0 el sz (.slice (g.map fun g => ⟨g, 0, none⟩) L cap) L us)
 {a : Addr} {m c : Nat} {news : List Value} (hl : news.length = m * sz) (hnews : ∀ j u, news[j]? = some u → w.cell? (a.add j) = some u) (h1 : ∀ u ∈ news, u.oneCell' = true) (h63 : L + m ≤ maxLen) (hbytes : (L + m) * i.bytes ≤ 140737488355328) :
 ∃ (A : ArrV) (w' : World), (Builtin.append_ #[t, t] ty #[.slice (g.map fun g => ⟨g, 0, none⟩) L cap, .slice (some a) m c]).run P w = .ok (.slice (A.g.map fun g => ⟨g, 0, none⟩) A.len A.cap) w' ∧ A.len = L + m ∧ (A.g = none → A.cap = 0) ∧ A.len ≤ A.cap ∧ A.cap ≤ maxLen ∧
  w'.ownsRow 0 el sz (.slice (A.g.map fun g => ⟨g, 0, none⟩) A.len A.cap) A.len (us ++ news) ∧ w.grownBy w' g ∧ ∀ g', A.g = some g' → w.heap.size ≤ g' ∨ g = some g' := by
 obtain ⟨v', w', hr, ho, hg, _⟩ := run_append_own w 0 t ty el i z sz i.bytes ht hi hz hsize rfl hzs hsz _ L us hown a m c news hl hnews h1 h63 hbytes (Nat.zero_le _)
 rw [own_block] at hg
 have hnew : ∀ g' cap', v' = .slice (some ⟨g', 0, none⟩) (L + m) cap' → w.heap.size ≤ g' ∨ g = some g' := by
  intro g' cap' e
  subst e
  cases g with
  | none =>
   have h0 : cap = 0 ∧ L = 0 ∧ us = [] := by
    rcases hown.2 with ⟨e1, e2⟩ | ⟨q, cp, cur, e1, _⟩
    ·simp at e1
     have := hown.1
     subst e2
     simp at this
     exact ⟨e1.2, rfl, this⟩
    ·simp at e1
   obtain ⟨rfl, rfl, rfl⟩ := h0
   obtain ⟨v2, w2, hr2, ho2, _⟩ := run_append_own w w.heap.size t ty el i z sz i.bytes ht hi hz hsize rfl hzs hsz _ 0 [] (World.ownsRow_nil w w.heap.size el sz) a m c news hl hnews h1 h63 hbytes (Nat.le_refl _)
   simp only [Option.map_none] at hr
   rw [hr] at hr2
   simp only [Result.ok.injEq] at hr2
   obtain ⟨rfl, rfl⟩ := hr2
   exact .inl (ho2.lt g' rfl).1
  | some g0 =>
   simp only [Option.map_some] at hr hown
   by_cases hroom : L + m ≤ cap
   ·obtain ⟨w2, hr2, _⟩ := run_append_fits (P := P) (w := w) 0 t ty el i sz ht hi hsize g0 L cap us hown a m c news hl hnews h1 hroom
    rw [hr] at hr2
    simp only [Result.ok.injEq, Value.slice.injEq, Option.some.injEq, Addr.mk.injEq, and_true, true_and] at hr2
    exact .inr (by rw [hr2.1.1])
   ·have hcells : ∀ j u, us[j]? = some u → w.cell? ((⟨g0, 0, none⟩ : Addr).add j) = some u := hown.cells rfl
    have hr2 := run_append_grow (P := P) w t ty el i z ht hi hz ⟨g0, 0, none⟩ L cap us (by rw [hsize]; exact hown.1) hcells a m c news (by rw [hsize]; exact hl) hnews (by omega) (by simp only [maxLen] at h63; omega) (growslice_fits (by omega) hbytes)
    rw [hr] at hr2
    simp only [Result.ok.injEq, Value.slice.injEq, Option.some.injEq, Addr.mk.injEq, and_true, true_and] at hr2
    exact .inl (by rw [hr2.1.1]; exact Nat.le_refl _)
 have ho0 := ho
 rcases ho.2 with ⟨rfl, e2⟩ | ⟨g', cap', cur, rfl, _, _, hnc, hcm, _, _⟩
 ·have : L = 0 ∧ m = 0 := by omega
  obtain ⟨rfl, rfl⟩ := this
  exact ⟨⟨none, 0, 0⟩, w', hr, rfl, fun _ => rfl, Nat.le_refl _, Nat.zero_le _, ho0, hg, fun g' h => by cases h⟩
 ·exact ⟨⟨some g', cap', L + m⟩, w', hr, rfl, fun h => (by cases h), hnc, hcm, ho0, hg, fun q h => by simp at h; subst h; exact hnew g' cap' rfl⟩
end
end Go.Proofs.YtdioaiepkhepaaaGreatDoor
namespace Go.Proofs.YtdioaiepkhepaaaGreatDoor
open Go.RowKit
mutual
theorem plainT_pl {P : Program} : ∀ {n : Nat} {t : TypeId} {κs : List SK}, plainT P n t = some κs → κs.all isPl = true
 | 0, _, _, h => by simp [plainT] at h
 | n + 1, t, κs, h => by
  simp only [plainT] at h
  split at h
  ·simp at h; subst h; rfl
  ·simp at h; subst h; rfl
  ·simp at h; subst h; rfl
  ·split at h
   ·rename_i κs' hf
    split at h
    ·simp at h; subst h; exact plainFs_pl (fun t κs h => plainT_pl h) hf
    ·simp at h
   ·simp at h
  ·split at h
   ·rename_i κs' hf
    split at h
    ·simp at h; subst h; exact plainFs_pl (fun t κs h => plainT_pl h) hf
    ·simp at h
   ·simp at h
  ·simp at h
theorem plainFs_pl {P : Program} {r : TypeId → Option (List SK)} (hr : ∀ t κs, r t = some κs → κs.all isPl = true) : ∀ {off : Nat} {fs : List (Nat × TypeId)} {κs : List SK}, plainFs P r off fs = some κs → κs.all isPl = true
 | _, [], κs, h => by simp [plainFs] at h; subst h; rfl
 | off, f :: fs, κs, h => by
  simp only [plainFs] at h
  split at h
  ·rename_i κs' hf
   split at h
   ·cases hq : plainFs P r (off + κs'.length) fs with
    | none => simp [hq] at h
    | some r' =>
     simp [hq] at h
     subst h
     rw [List.all_append, hr _ _ hf, plainFs_pl hr hq]
     rfl
   ·simp at h
  ·simp at h
end
section
variable {P : Program} {w : World} {ρ : Rho}
variable {g : Get} {e : Operand → Value} (hg : ∀ x sv, g x = some sv → VRel ρ sv (e x)) {B : Foot} {H : List (Nat × Blk)} (hH : HRel B ρ H w) (hX : XRel B ρ H w)
include hg hH hX
omit hg in
theorem news_sound {κs : List SK} {c0 c1 : SE} {sc : SC} {v : Value} {es0 : List Value} (hp : κs.all isPl = true) (h0 : c0.den = .agg es0.toArray) (hk0 : c0.kind = some (.l κs)) (h : newsE H κs c0 sc = some c1) (hr : CRel ρ sc v) :
 ∃ (es news : List Value) (p : Option Addr) (cap : Nat), v = .slice p es.length cap ∧ (p = none → es = [] ∧ cap = 0) ∧ c1.den = .agg (es0 ++ es).toArray ∧ c1.kind = some (.l κs) ∧ Flat κs news es ∧ ∀ a, p = some a → ∀ j u, news[j]? = some u → w.cell? (a.add j) = some u := by
 have ofRead : ∀ {y : SE}, RdK w.cell? (.l κs) v y.den → ∃ (es news : List Value) (p : Option Addr) (cap : Nat), v = .slice p es.length cap ∧ (p = none → es = [] ∧ cap = 0) ∧ (SE.app 1000006 ctF 0 (.l κs) [c0, y]).den = .agg (es0 ++ es).toArray ∧ Flat κs news es ∧ ∀ a, p = some a → ∀ j u, news[j]? = some u → w.cell? (a.add j) = some u := by
  intro y hy
  simp only [RdK] at hy
  obtain ⟨p, n, cap, es, rfl, ed, rfl, _, hcap, hpn, hh⟩ := hy
  have hden : (SE.app 1000006 ctF 0 (.l κs) [c0, y]).den = .agg (es0 ++ es).toArray := by
   simp only [SE.den, denL, ctF, h0, ed, els_agg, norm]
   simp
  cases p with
  | none =>
   have : es = [] := by
    cases es with
    | nil => rfl
    | cons e0 _ => obtain ⟨a, us, cs, q, _⟩ := hh 0 e0 rfl; cases q
   subst this
   exact ⟨[], [], none, cap, rfl, fun _ => ⟨rfl, hpn rfl⟩, hden, rfl, fun a h => by cases h⟩
  | some a =>
   have : ∀ k, k ≤ es.length → ∃ news : List Value, Flat κs news (es.take k) ∧ ∀ j u, news[j]? = some u → w.cell? (a.add j) = some u := by
    intro k
    induction k with
    | zero => intro _; exact ⟨[], by simp [Flat], fun j u h => by simp at h⟩
    | succ k ih =>
     intro hk
     obtain ⟨news, h1, h2⟩ := ih (by omega)
     have hlt : k < es.length := by omega
     obtain ⟨a', us, cs, q1, q2, q3, q4⟩ := hh k _ (List.getElem?_eq_getElem hlt)
     simp at q1
     subst q1
     have huc := RdKs.plain hp q4
     subst huc
     have hl := h1.length
     rw [List.length_take, Nat.min_eq_left (by omega)] at hl
     refine ⟨news ++ us, ?_, fun j u hj => ?_⟩
     ·have : es.take (k + 1) = es.take k ++ [es[k]] := by rw [List.take_add_one, List.getElem?_eq_getElem hlt]; rfl
      rw [this, q2]
      exact h1.append (Flat.one q4.kinds)
     ·by_cases hjl : j < news.length
      ·rw [List.getElem?_append_left hjl] at hj; exact h2 j u hj
      ·rw [List.getElem?_append_right (by omega)] at hj
       have := q3 _ u hj
       rw [addr_add_add] at this
       rw [← this]
       congr 2
       omega
   obtain ⟨news, h1, h2⟩ := this es.length (Nat.le_refl _)
   rw [List.take_length] at h1
   exact ⟨es, news, some a, cap, rfl, (fun h => by cases h), hden, h1, fun a' h' => by simp at h'; subst h'; exact h2⟩
 unfold newsE at h
 split at h
 ·rename_i m off len cap
  split at h
  ·rename_i b hb
   split at h
   ·rename_i ha
    split at h
    ·rename_i hlen
     obtain rfl : len = 1 := beq_len hlen
     split at h
     ·rename_i cs hcs
      cases hx : flat1s κs cs with
      | none => simp [hx] at h
      | some xs =>
       simp [hx] at h
       subst h
       obtain ⟨x, hρ, rfl⟩ := hr
       obtain ⟨_, vs, hcell, hvr⟩ := hH.blk m b x hb hρ
       obtain ⟨e1, e2⟩ := takeC_spec hcs
       have hcr : CsRel ρ cs ((vs.drop off).take κs.length) := by rw [e1]; exact (hvr.drop off).take _
       have hrd := flat1s_sound (m := ρ.m) (fun _ _ h => h) hx hcr
       have hpl := RdKs.plain hp hrd
       have hkk := hrd.kinds
       refine ⟨[.agg (denL xs).toArray], denL xs, some ⟨x, off, none⟩, cap, rfl, (fun h => by cases h), ?_, rfl, Flat.one hkk, fun a ha' j u hj => ?_⟩
       ·simp only [SE.den, denL, snF, h0, els_agg, norm]
        simp
       ·simp at ha'
        subst ha'
        rw [addr_add, cell_of hcell]
        rw [← hpl, List.getElem?_take] at hj
        split at hj
        ·rw [List.getElem?_drop] at hj; exact hj
        ·simp at hj
     ·simp at h
    ·simp at h
   ·simp at h
  ·simp at h
 ·rename_i y
  split at h
  ·rename_i κs' hk
   split at h
   ·rename_i hc
    obtain rfl := eqSKs_eq hc
    simp at h
    subst h
    obtain ⟨κ2, hk2, hi⟩ := hr
    rw [hk] at hk2
    cases hk2
    obtain ⟨es, news, p, cap, q1, q2, q3, q4, q5⟩ := ofRead (hi.mono hX.mem)
    exact ⟨es, news, p, cap, q1, q2, q3, rfl, q4, q5⟩
   ·simp at h
  ·simp at h
 ·rename_i n k
  split at h
  ·rename_i b κs' c hgr
   split at h
   ·rename_i hc
    obtain rfl := eqSKs_eq hc
    simp at h
    subst h
    obtain ⟨hf, ha⟩ := getAr_spec hgr
    have hr' : ARel ρ n k v := hr
    obtain ⟨A, L, hn, _⟩ := hr
    obtain ⟨hrd, _⟩ := (hX.arr n b _ c A hf ha hn).read hn hr' (m := w.cell?) (fun _ _ _ _ u h => h)
    obtain ⟨es, news, p, cap, q1, q2, q3, q4, q5⟩ := ofRead hrd
    exact ⟨es, news, p, cap, q1, q2, q3, rfl, q4, q5⟩
   ·simp at h
  ·simp at h
 ·simp at h
omit hg hH in
theorem old_sound {κs : List SK} {t : TypeId} {sc : SC} {v : Value} {old : Option Nat} {c0 : SE} (h : oldE H κs t sc = some (old, c0)) (hr : CRel ρ sc v) :
 ∃ (g : Option Nat) (L cap : Nat) (es us : List Value), v = .slice (g.map fun g => ⟨g, 0, none⟩) L cap ∧ rowOf ρ old = g ∧ c0.kind = some (.l κs) ∧ c0.den = .agg es.toArray ∧ es.length = L ∧ Flat κs us es ∧ w.ownsRow 0 t κs.length (.slice (g.map fun g => ⟨g, 0, none⟩) L cap) L us ∧ ∀ n, old = some n → ∃ b, find H n = some b ∧ b.arr ≠ none ∧ b.own = true := by
 unfold oldE at h
 split at h
 ·simp at h
  obtain ⟨rfl, rfl⟩ := h
  obtain ⟨p, rfl, hz⟩ := hr
  obtain rfl := hz rfl
  exact ⟨none, 0, 0, [], [], rfl, rfl, rfl, rfl, rfl, rfl, World.ownsRow_nil w 0 t κs.length, fun n h => by cases h⟩
 ·rename_i n k
  split at h
  ·rename_i bl κs' c hgr
   split at h
   ·rename_i hc
    simp only [Bool.and_eq_true] at hc
    obtain rfl := eqSKs_eq hc.1.1
    obtain rfl : bl.elem = t := beq_len hc.2
    simp at h
    obtain ⟨rfl, rfl⟩ := h
    obtain ⟨hf, ha⟩ := getAr_spec hgr
    obtain ⟨A, L, hn, h1, h2, h3, h4, h5, h6, rfl⟩ := hr
    obtain ⟨es, us, hk, hp, hd, hl, hz, hlc, hcm, hfl, how⟩ := hX.arr n bl _ c A hf ha hn
    refine ⟨A.g, L, A.cap, es.take L, us.take (L * κs'.length), rfl, by simp [rowOf, hn], takeE_kind hk k, takeE_den hd (fun e => by rw [h5 e, hl]) h6, by simp; omega, hfl.take L (by omega), ownsRow_take how h4, fun n' h' => by simp at h'; subst h'; exact ⟨bl, hf, by rw [ha]; simp, hc.1.2⟩⟩
   ·simp at h
  ·simp at h
 ·simp at h
set_option maxHeartbeats 1000000 in
theorem ar_sound {o : Oper} (hop : arOp g o.op = true) {r : Res} (h : (arStep P H g o.op).den = some r) : Eff P B ρ H w (execOp e o) r := by
 have fl : ∀ {q : Prop}, (Tree.fail : Tree Res).den = some r → q := fun h => by simp [Tree.den] at h
 obtain ⟨dst, op, type, pos, after, guard⟩ := o
 simp only at hop h
 unfold arStep at h
 split at h
 ·
  rename_i t x
  split at h
  ·rename_i n sz i off hx
   split at h
   ·rename_i b κs c hgr
    split at h
    ·rename_i hsz
     obtain rfl : sz = κs.length := beq_len hsz
     obtain ⟨hf, ha⟩ := getAr_spec hgr
     obtain ⟨A, g', j, hn, hgA, hj, hjl, ex⟩ := getC_rel hg hx
     have hA := hX.arr n b κs c A hf ha hn
     have hA0 := hA
     obtain ⟨es, us, hk, hp, hd, hl, hz, hlc, hcm, hfl, how⟩ := hA0
     obtain ⟨hrd, _⟩ := hA.read (ρ := ρ) hn (k := none) (v := .slice (A.g.map fun g => ⟨g, 0, none⟩) A.len A.cap) ⟨A, A.len, hn, hlc, hcm, hz, Nat.le_refl _, fun _ => rfl, (fun x hx => by cases hx), rfl⟩ (m := w.cell?) (fun _ _ _ _ u h => h)
     obtain ⟨a, hap, hq⟩ := elem_rel (ρ := { ρ with m := w.cell? }) (κs := κs) (y := c) (i := i) hrd hj hjl
     rw [hgA] at hap
     simp at hap
     subst hap
     obtain ⟨a, ea, hq2⟩ := hq.ptr
     simp at ea
     subst ea
     have hq3 := hq2 off
     rw [Nat.zero_add, addr_add, addr_add, Nat.zero_add] at hq3
     obtain ⟨a, sv, u, e1, e2, e3, e4⟩ := loadQ_sound (ρ := { ρ with m := w.cell? }) (P := P) (w := w) (fun _ _ h => h) hq3 h
     simp at e1
     subst e1
     have e5 := loadQ_pl (ρ := ρ) (κs := κs) rfl hp h e2 e4
     subst e2
     exact ⟨u, by simp [execOp, Instr.loadAt, ex, Instr.sureAddr, e3], e5⟩
    ·exact fl h
   ·exact fl h
  ·exact fl h
 ·
  rename_i t x y
  split at h
  ·rename_i n sz i off v hx hy
   split at h
   ·rename_i bl κs c k hgr hk
    split at h
    ·rename_i hc
     simp only [Bool.and_eq_true] at hc
     obtain rfl : sz = κs.length := beq_len hc.1.1.1
     have hown := hc.1.1.2
     have hvl : v.cells.length = k := beq_len hc.1.2
     have hle := Nat.le_of_ble_eq_true hc.2
     split at h
     ·rename_i xs hxs
      simp [Tree.den] at h
      subst h
      obtain ⟨hf, ha⟩ := getAr_spec hgr
      obtain ⟨A, g', j, hn, hgA, hj, hjl, ex⟩ := getC_rel hg hx
      obtain ⟨es, us, hkc, hp, hd, hl, hz, hlc, hcm, hfl, how⟩ := hX.arr n bl κs c A hf ha hn
      have hcr := (getP_rel hg hy).cells
      have hrd := flat1s_sound (m := ρ.m) (fun _ _ h => h) hxs hcr
      have hp' : ((κs.drop off).take k).all isPl = true := by
       rw [List.all_eq_true] at hp ⊢
       exact fun κ hκ => hp κ (List.mem_of_mem_drop (List.mem_of_mem_take hκ))
      have hpl := RdKs.plain hp' hrd
      have hkk := hrd.kinds
      have hul : (denL xs).length = k := by rw [← hpl, ← hcr.length, hvl]
      obtain ⟨hlen, how2⟩ := how
      rw [hgA] at how2
      rcases how2 with ⟨e1, _⟩ | ⟨g2, cap2, cur, e1, e2, e3, e4, e5, e6, e7⟩
      ·simp at e1
      simp only [Option.map_some, Value.slice.injEq, Option.some.injEq, Addr.mk.injEq, and_true, true_and] at e1
      obtain ⟨rfl, rfl⟩ := e1
      have hin : j * κs.length + κs.length ≤ A.len * κs.length := by
       have : (j + 1) * κs.length ≤ A.len * κs.length := Nat.mul_le_mul_right _ hjl
       rw [Nat.add_mul, Nat.one_mul] at this
       exact this
      have hcap : A.len * κs.length ≤ cur.size := by rw [e6]; exact Nat.mul_le_mul_right _ hlc
      have hnl : (e y).cells.toList.length = k := by rw [← hcr.length, hvl]
      obtain ⟨w', h1, h2, h3, h4, h5, h6, h7⟩ := run_storeCells (P := P) g' (j * κs.length + off) bl.elem (e y).cells.toList 0 w cur.toList (by simpa using e3) (by have : cur.toList.length = cur.size := Array.length_toList; rw [hnl, this]; omega) (fun u hu => by rw [hpl] at hu; exact hkk.ones hp' u hu)
      have hne : ∃ cs, es[j]? = some (.agg (List.toArray cs)) := by
       obtain ⟨cs, q, _⟩ := hfl.get (List.getElem?_eq_getElem (show j < es.length by omega))
       exact ⟨cs, by rw [List.getElem?_eq_getElem (show j < es.length by omega), q]⟩
      obtain ⟨cs, hcs⟩ := hne
      have hfl2 := hfl.put (j := j) (off := off) (new := denL xs) (by omega) hcs (by rw [hul]; exact hkk) (by omega)
      rw [Nat.add_zero, hpl] at h2
      refine ⟨w', A, g', bl, ?_, hn, hgA, hf, by rw [ha]; simp, hown, ⟨es.set j (.agg (putV cs off (denL xs)).toArray), putV us (j * κs.length + off) (denL xs), rfl, hp, ?_, by simp [hl], hz, hlc, hcm, hfl2, by rw [putV_length]; exact hlen, ?_⟩, ⟨h5, h6, h7, by omega, fun q _ hq => h3 q fun e => hq (by rw [e])⟩, h4⟩
      ·have hsz : ¬ (e y).cells.size ≠ k := by simpa using hnl
       simp only [execOp, Instr.storeAt, ex, Instr.sureAddr, storeVar, Sem.run_bind, Sem.run_pure, Result.andThen_ok, run_size hk, Sem.run_ite, if_neg hsz]
       rw [h1]
       rfl
      ·simp only [SE.den, denL, stF, hd, els_agg, norm, hj]
       simp [List.getD, hcs, els_agg]
      ·rw [hgA]
       refine .inr ⟨g', A.cap, _, rfl, Nat.zero_le _, h2, hlc, hcm, ?_, ?_⟩
       ·simp only [List.size_toArray, putV_length, Array.length_toList]; exact e6
       ·rw [← e7]
        apply List.ext_getElem?
        intro q
        rw [List.getElem?_take, putV_get, putV_get]
        simp only [List.length_take, Array.length_toList, List.getElem?_take]
        split
        ·rename_i hq
         split
         ·rename_i hr
          rw [if_pos (by omega), if_pos (by omega)]
         ·rfl
        ·rename_i hq
         rw [if_neg (by omega)]
     ·exact fl h
    ·exact fl h
   ·exact fl h
  ·exact fl h
 ·
  rename_i t x i
  split at h
  ·rename_i n k el j hx hu hi
   split at h
   ·rename_i b κs c s kk hgr hs hj
    split at h
    ·rename_i hbs
     obtain rfl : s = κs.length := beq_len hbs
     obtain ⟨h1, h2⟩ := guard_den h
     simp [Tree.den] at h2
     subst h2
     obtain ⟨hf, ha⟩ := getAr_spec hgr
     obtain ⟨A, L, hn, q1, q2, q3, q4, q5, q6, ex⟩ := getC_rel hg hx
     obtain ⟨es, us, hkc, hp, hd, hl, hz, hlc, hcm, hfl, how⟩ := hX.arr n b κs c A hf ha hn
     obtain ⟨ei, dj⟩ := kind_den_int (getE_rel hg hi) hj
     have hden := takeE_den (κs := κs) hd (k := k) (L := L) (fun e => by rw [q5 e, hl]) q6
     simp only [denL, ixB, hden, els_agg, List.getD_cons_zero, tru, Bool.and_eq_true, decide_eq_true_eq, List.length_take] at h1
     have b2 : num j.den < (L : Int) := by omega
     have b1 : 0 ≤ num j.den := h1.1
     cases hgA : A.g with
     | none => have := q3 hgA; omega
     | some g' =>
      rw [hgA] at ex
      refine ⟨.pointer (some ⟨g', (num j.den).toNat * κs.length, none⟩), ?_, A, g', (num j.den).toNat, hn, hgA, by omega, by omega, by rw [Nat.add_zero]⟩
      simp [execOp, Instr.indexAt, run_underlying hu, ex, ei, asIntOf, b1, b2, run_size hs, addr_add]
    ·exact fl h
   ·exact fl h
  ·exact fl h
 ·
  rename_i t x lo hi mx
  split at h
  ·rename_i n k el hh hx hu
   split at h
   ·rename_i b κs c hs sz hgr hgh hsz
    split at h
    ·rename_i kk hj
     obtain ⟨h1, h2⟩ := guard_den h
     simp [Tree.den] at h2
     subst h2
     obtain ⟨hf, ha⟩ := getAr_spec hgr
     obtain ⟨A, L, hn, q1, q2, q3, q4, q5, q6, ex⟩ := getC_rel hg hx
     obtain ⟨es, us, hkc, hp, hd, hl, hz, hlc, hcm, hfl, how⟩ := hX.arr n b κs c A hf ha hn
     obtain ⟨ei, dj⟩ := kind_den_int (getE_rel hg hgh) hj
     have hden := takeE_den (κs := κs) hd (k := k) (L := L) (fun e => by rw [q5 e, hl]) q6
     simp only [denL, tkB, hden, els_agg, List.getD_cons_zero, tru, Bool.and_eq_true, decide_eq_true_eq, List.length_take] at h1
     have b1 : 0 ≤ num hs.den := h1.1
     have b2 : num hs.den ≤ (A.cap : Int) := by omega
     refine ⟨.slice (A.g.map fun g => ⟨g, 0, none⟩) (num hs.den).toNat A.cap, ?_, A, (num hs.den).toNat, hn, q1, q2, q3, by omega, (fun e => by cases e), (fun x hx => by simp at hx; subst hx; omega), rfl⟩
     simp only [execOp, ex, ei, Option.map_none, Option.map_some, run_sliceH hu hsz _ L A.cap b1 b2, Sem.run_bind, Result.andThen_ok, Sem.run_pure]
    ·exact fl h
   ·exact fl h
  ·exact fl h
 ·
  rename_i t len cap
  split at h
  ·rename_i el n c hu hn hc
   split at h
   ·rename_i i κs kn kc hi hκ hkn hkc
    split at h
    ·rename_i z hz
     split at h
     ·rename_i zs hzs
      split at h
      ·rename_i xs hxs
       split at h
       ·rename_i hcond
        simp only [Bool.and_eq_true] at hcond
        have hsz : i.size = κs.length := beq_len hcond.1
        have hpos : 0 < i.size := Nat.le_of_ble_eq_true hcond.2
        obtain ⟨h1, h2⟩ := guard_den h
        simp [Tree.den] at h2
        subst h2
        obtain ⟨en, dn⟩ := kind_den_int (getE_rel hg hn) hkn
        obtain ⟨ec, dc⟩ := kind_den_int (getE_rel hg hc) hkc
        simp only [denL, mkB, List.getD_cons_zero, tru, Bool.and_eq_true, decide_eq_true_eq] at h1
        obtain ⟨⟨⟨b1, b2⟩, b3⟩, b4⟩ := h1
        have hkz : KindsL κs z.cells.toList := by
         have := flat1s_sound (m := ρ.m) (fun _ _ h => h) hxs (ofCells_rel hzs)
         have hp := plainT_pl hκ
         rw [RdKs.plain hp this]
         exact this.kinds
        have hp := plainT_pl hκ
        have hr := run_make (P := P) w t el i z hu hi hz kn kc (num n.den) (num c.den) b1 b2 (by omega) b4
        rw [← en, ← ec] at hr
        have hzl := hkz.len
        have hle : (num n.den).toNat * κs.length ≤ (num c.den).toNat * κs.length := Nat.mul_le_mul_right _ (by omega)
        have hm63 : (num c.den).toNat ≤ maxLen := by simp only [maxLen]; omega
        have hml : (madeCells z.cells ((num c.den).toNat * i.size)).toList.length = (num c.den).toNat * i.size := by rw [Array.length_toList, size_madeCells]
        refine ⟨⟨some w.heap.size, (num c.den).toNat, (num n.den).toNat⟩, w.alloc (.cells (madeCells z.cells ((num c.den).toNat * i.size)) el), ?_, ⟨List.replicate (num n.den).toNat (.agg z.cells), ((madeCells z.cells ((num c.den).toNat * i.size)).toList.take ((num n.den).toNat * κs.length)), rfl, hp, ?_, by simp, (fun e => by cases e), (by show (num n.den).toNat ≤ (num c.den).toNat; omega), hm63, ?_, ?_⟩, World.grownBy_alloc w _ none, (fun g' hg' => by simp at hg'; subst hg'; exact .inl (Nat.le_refl _)), fun n h => by cases h⟩
        ·simp only [execOp, hr, Sem.run_bind, Result.andThen_ok, Sem.run_pure]
         rfl
        ·simp only [SE.den, denL, rpF, norm]
         simp
        ·refine Flat.of_get ?_ fun q x hq => ?_
         ·rw [List.length_take, hml, List.length_replicate, hsz, Nat.min_eq_left hle]
         ·have hql : q < (num n.den).toNat := by have := (List.getElem?_eq_some_iff.1 hq).1; simpa using this
          rw [List.getElem?_replicate, if_pos hql] at hq
          simp at hq
          subst hq
          refine ⟨z.cells.toList, by simp, hkz, fun j u hj => ?_⟩
          have hjl : j < κs.length := by rw [← hzl]; exact (List.getElem?_eq_some_iff.1 hj).1
          have hqq : q * κs.length + κs.length ≤ (num n.den).toNat * κs.length := by
           have : (q + 1) * κs.length ≤ (num n.den).toNat * κs.length := Nat.mul_le_mul_right _ hql
           rw [Nat.add_mul, Nat.one_mul] at this
           exact this
          rw [List.getElem?_take, if_pos (by omega), hsz]
          have hzsz : z.cells.size = κs.length := by rw [← hzl]; simp
          simp only [madeCells, Array.getElem?_toList, Array.getElem?_map]
          rw [Array.getElem?_range, if_pos (by omega)]
          simp only [Option.map_some, hzsz]
          rw [Nat.mul_comm q, Nat.mul_add_mod, Nat.mod_eq_of_lt hjl]
          rw [← hj]
          simp only [Array.getElem?_toList]
          rw [getElem!_def]
          rw [show z.cells[j]? = some u by simpa using hj]
        ·refine ⟨?_, .inr ⟨w.heap.size, (num c.den).toNat, _, rfl, Nat.zero_le _, heap_alloc_new w _, (by show (num n.den).toNat ≤ (num c.den).toNat; omega), hm63, by rw [size_madeCells, hsz], rfl⟩⟩
         rw [List.length_take, hml, hsz, Nat.min_eq_left hle]
       ·exact fl h
      ·exact fl h
     ·exact fl h
    ·exact fl h
   ·exact fl h
  ·exact fl h
 ·
  rename_i c
  obtain ⟨callee, args, argTypes⟩ := c
  simp only at h
  split at h
  ·
   split at h
   ·rename_i t x hat har
    have hat : argTypes = #[t] := by cases argTypes; simp at hat; simp [hat]
    have har : args = #[x] := by cases args; simp at har; simp [har]
    subst hat har
    split at h
    ·rename_i n k el hx hu
     split at h
     ·rename_i b κs c hgr
      obtain rfl := vE_some h
      obtain ⟨hf, ha⟩ := getAr_spec hgr
      obtain ⟨A, L, hn, q1, q2, q3, q4, q5, q6, ex⟩ := getC_rel hg hx
      obtain ⟨es, us, hkc, hp, hd, hl, hz, hlc, hcm, hfl, how⟩ := hX.arr n b κs c A hf ha hn
      have hden := takeE_den (κs := κs) hd (k := k) (L := L) (fun e => by rw [q5 e, hl]) q6
      refine ⟨.int .i64 L, ?_, ?_, .i .i64, rfl, L, rfl, ?_⟩
      ·simp [execOp, resolve, invoke, builtin, Builtin.len_, run_underlying hu, goInt, ex]
      ·simp only [lenE, SE.den, denL, lnF, hden, els_agg, norm, num, List.getD_cons_zero, List.length_take]
       rw [Nat.min_eq_left (by omega)]
      ·have h1 : IntKind.i64.min ≤ 0 := by decide
       have h2 : (9223372036854775807 : Int) ≤ IntKind.i64.max := by decide
       simp [maxLen] at q2
       constructor <;> omega
     ·exact fl h
    ·exact fl h
   ·exact fl h
  ·
   split at h
   ·rename_i t t' x y hat har
    have har : args = #[x, y] := by cases args; simp at har; simp [har]
    subst har
    split at h
    ·rename_i el a b hu hx hy
     split at h
     ·rename_i i κs hi hκ
      split at h
      ·rename_i z hz
       split at h
       ·rename_i hcond
        simp only [Bool.and_eq_true] at hcond
        obtain rfl : t = t' := beq_len hcond.1.1.1.1
        have hsz : i.size = κs.length := beq_len hcond.1.1.1.2
        have hpos : 0 < i.size := Nat.le_of_ble_eq_true hcond.1.1.2
        have hzs : z.cells.size = i.size := beq_len hcond.1.2
        have hby : 0 < i.bytes := Nat.le_of_ble_eq_true hcond.2
        have hat : argTypes = #[t, t] := by cases argTypes; simp at hat; simp [hat]
        subst hat
        split at h
        ·rename_i old c0 hold
         split at h
         ·rename_i c1 hnew
          obtain ⟨h1, h2⟩ := guard_den h
          simp [Tree.den] at h2
          subst h2
          have hp := plainT_pl hκ
          obtain ⟨g', L, cap, es, us, ea, hrow, hk0, hd0, hl0, hfl0, how0, hold'⟩ := old_sound hX hold (getC_rel hg hx)
          obtain ⟨es1, news, p, cap1, eb, hpn, hd1, hk1, hfl1, hrd⟩ := news_sound hH hX hp hd0 hk0 hnew (getC_rel hg hy)
          simp only [denL, roB, hd1, els_agg, List.getD_cons_zero, tru, Bool.and_eq_true, decide_eq_true_eq, List.length_append] at h1
          have hm63 : L + es1.length ≤ maxLen := by simp only [maxLen]; omega
          have hrun : ∀ {v : Value} {w' : World}, (Builtin.append_ #[t, t] type #[e x, e y]).run P w = .ok v w' → (execOp e { dst := dst, op := .call { callee := .builtin .append, args := #[x, y], argTypes := #[t, t] }, type := type, pos := pos, after := after, guard := guard }).run P w = .ok (.value v) w' := fun hr => by
           simp [execOp, resolve, invoke, builtin, hr]
          cases p with
          | none =>
           obtain ⟨rfl, rfl⟩ := hpn rfl
           have hn : news = [] := by simpa [Flat] using hfl1
           subst hn
           have hr := run_append_owned_none (P := P) (w := w) 0 t type el i _ hu hi _ L us how0
           have hg0 : g' = none → cap = 0 := fun e => by
            subst e
            rcases how0.2 with ⟨q1, _⟩ | ⟨_, _, _, q1, _⟩
            ·simp at q1; exact q1.2
            ·simp at q1
           have hlc : L ≤ cap ∧ cap ≤ maxLen := by
            rcases how0.2 with ⟨q1, q2⟩ | ⟨_, _, _, q1, _, _, q4, q5, _⟩
            ·simp at q1; omega
            ·simp at q1; omega
           refine ⟨⟨g', cap, L⟩, w, hrun (by rw [ea, eb]; exact hr), ⟨es ++ [], us, hk1, hp, hd1, by simp [hl0], hg0, hlc.1, hlc.2, by rw [List.append_nil]; exact hfl0, how0⟩, ⟨rfl, rfl, rfl, Nat.le_refl _, fun _ _ _ => rfl⟩, fun q hq => .inr (by rw [hrow]; exact hq), hold'⟩
          | some a =>
           obtain ⟨A, w', hr, q1, q2, q3, q4, q5, q6, q7⟩ := run_append_ar (P := P) (ty := type) hu hi hz hsz (by rw [hzs, hsz]) (by omega) how0 (by rw [hfl1.length]) (hrd a rfl) (hfl1.ones hp) hm63 (by rw [← hl0]; exact h1.1)
           exact ⟨A, w', hrun (by rw [ea, eb]; exact hr), ⟨es ++ es1, us ++ news, hk1, hp, hd1, by rw [List.length_append, hl0, q1], q2, q3, q4, hfl0.append hfl1, q5⟩, by rw [hrow]; exact q6, fun q hq => by rw [hrow]; exact q7 q hq, hold'⟩
         ·exact fl h
        ·exact fl h
       ·exact fl h
      ·exact fl h
     ·exact fl h
    ·exact fl h
   ·exact fl h
  ·exact fl h
 ·exact fl h
end
end Go.Proofs.YtdioaiepkhepaaaGreatDoor
namespace Go.Proofs.YtdioaiepkhepaaaGreatDoor
open Go.RowKit
def CallOK (P : Program) (f : FuncId) (args : Array Value) (w : World) (R : Value → World → Prop) : Prop :=
 ((callFunc f args).run P w = .ok (.enter f args) w ∧ Calls P f args w fun e w' => ∃ v, e = .returned v ∧ R v w') ∨ (∃ v, (callFunc f args).run P w = .ok (.value v) w ∧ R v w)
theorem CallOK.mono {P : Program} {f : FuncId} {args : Array Value} {w : World} {R R' : Value → World → Prop} (h : CallOK P f args w R) (k : ∀ v w', R v w' → R' v w') : CallOK P f args w R' := by
 rcases h with ⟨h1, h2⟩ | ⟨v, h1, h2⟩
 ·exact .inl ⟨h1, h2.mono fun e w' ⟨v, he, hr⟩ => ⟨v, he, k v w' hr⟩⟩
 ·exact .inr ⟨v, h1, k v w h2⟩
def Stays (I : World → Prop) : Prop := ∀ w w', I w → Below w.heap.size w w' → I w'
def FreshArr (w w' : World) (t : TypeId) (κs : List SK) (v d : Value) : Prop :=
 ∃ (A : ArrV) (es us : List Value), v = .slice (A.g.map fun g => ⟨g, 0, none⟩) A.len A.cap ∧ d = .agg es.toArray ∧ es.length = A.len ∧ κs.all isPl = true ∧ (A.g = none → A.cap = 0) ∧ A.len ≤ A.cap ∧ A.cap ≤ maxLen ∧ Flat κs us es ∧
  w'.ownsRow 0 t κs.length v A.len us ∧ ∀ g, A.g = some g → w.heap.size ≤ g
def ResK (P : Program) (f : FuncId) (w w' : World) : SK → Value → Value → Prop
 | .l κs, v, d => ∃ t, resElems P f = [t] ∧ FreshArr w w' t κs v d
 | κ, v, d => v = d ∧ inPl κ d
def ResKs (P : Program) (f : FuncId) (w w' : World) : List SK → List Value → List Value → Prop
 | [], vs, ds => vs = [] ∧ ds = []
 | κ :: κs, vs, ds => ∃ v us d es, vs = v :: us ∧ ds = d :: es ∧ ResK P f w w' κ v d ∧ ResKs P f w w' κs us es
def SumOK (P : Program) (I : World → Prop) (s : Sum) : Prop :=
 ∀ ds vs w, I w → RdKs w.cell? (kindsL s.args) vs ds → CallOK P s.f (packL s.args vs).toArray w fun v w' => ∃ rs, v = s.res.pack rs ∧ ResKs P s.f w w' s.res.kinds rs (s.F ds) ∧ Below w.heap.size w w'
def CSumOK (P : Program) (I : World → Prop) (s : CSum) : Prop :=
 ∀ ds vs w, I w → RdKs w.cell? (kindsL s.args) vs ds → s.pre ds = true → CallOK P s.f (packL s.args vs).toArray w fun v w' => ∃ rs, v = s.res.pack rs ∧ ResKs P s.f w w' s.res.kinds rs (s.F ds) ∧ Below w.heap.size w w'
theorem ResKs.plain {P : Program} {f : FuncId} {w w' : World} : ∀ {κs : List SK} {vs ds : List Value}, κs.all isPl = true → ResKs P f w w' κs vs ds → vs = ds ∧ KindsL κs ds
 | [], _, _, _, h => by simp only [ResKs] at h; simp only [KindsL]; exact ⟨by rw [h.1, h.2], h.2⟩
 | κ :: κs, vs, ds, hp, h => by
  simp only [ResKs] at h
  obtain ⟨v, us, d, es, rfl, rfl, q1, q2⟩ := h
  simp only [List.all_cons, Bool.and_eq_true] at hp
  obtain ⟨e1, k1⟩ := ResKs.plain hp.2 q2
  have e2 : v = d ∧ inPl κ d := by
   have h1 := hp.1
   cases κ <;> first | exact q1 | (simp [isPl] at h1; done)
  simp only [KindsL]
  exact ⟨by rw [e1, e2.1], d, es, rfl, e2.2.kind, k1⟩
theorem ResKs.of_plain {P : Program} {f : FuncId} {w w' : World} : ∀ {κs : List SK} {vs : List Value}, κs.all isPl = true → KindsL κs vs → ResKs P f w w' κs vs vs
 | [], _, _, h => by simp only [KindsL] at h; simp [h, ResKs]
 | κ :: κs, vs, hp, h => by
  simp only [KindsL] at h
  obtain ⟨v, us, rfl, q1, q2⟩ := h
  simp only [List.all_cons, Bool.and_eq_true] at hp
  simp only [ResKs]
  refine ⟨v, us, v, us, rfl, rfl, ?_, ResKs.of_plain hp.2 q2⟩
  have h1 := hp.1
  have := (inKind_pl h1).1 q1
  cases κ <;> first | exact ⟨rfl, this⟩ | (simp [isPl] at h1; done)
theorem ResKs.length {P : Program} {f : FuncId} {w w' : World} : ∀ {κs : List SK} {vs ds : List Value}, ResKs P f w w' κs vs ds → vs.length = κs.length ∧ ds.length = κs.length
 | [], _, _, h => by simp only [ResKs] at h; simp [h.1, h.2]
 | κ :: κs, vs, ds, h => by
  simp only [ResKs] at h
  obtain ⟨v, us, d, es, rfl, rfl, _, q2⟩ := h
  have := ResKs.length q2
  simp [this.1, this.2]
theorem ResKs.split {P : Program} {f : FuncId} {w w' : World} : ∀ {κs κs' : List SK} {vs ds : List Value}, ResKs P f w w' (κs ++ κs') vs ds → ResKs P f w w' κs (vs.take κs.length) (ds.take κs.length) ∧ ResKs P f w w' κs' (vs.drop κs.length) (ds.drop κs.length)
 | [], _, vs, ds, h => ⟨by simp [ResKs], by simpa using h⟩
 | κ :: κs, κs', vs, ds, h => by
  simp only [List.cons_append, ResKs] at h
  obtain ⟨v, us, d, es, rfl, rfl, q1, q2⟩ := h
  obtain ⟨k1, k2⟩ := ResKs.split q2
  simp only [List.length_cons, List.take_succ_cons, List.drop_succ_cons, ResKs]
  exact ⟨⟨v, _, d, _, rfl, rfl, q1, k1⟩, k2⟩
theorem ResKs.get {P : Program} {f : FuncId} {w w' : World} : ∀ {κs : List SK} {vs ds : List Value} {i : Nat} {κ : SK}, ResKs P f w w' κs vs ds → κs[i]? = some κ → ∃ v d, vs[i]? = some v ∧ ds[i]? = some d ∧ ResK P f w w' κ v d
 | [], _, _, i, κ, h, hi => by simp at hi
 | κ0 :: κs, vs, ds, i, κ, h, hi => by
  simp only [ResKs] at h
  obtain ⟨v, us, d, es, rfl, rfl, q1, q2⟩ := h
  cases i with
  | zero => simp at hi; subst hi; exact ⟨v, d, rfl, rfl, q1⟩
  | succ i => simpa using ResKs.get q2 (by simpa using hi)
theorem RdKs.split {m : Addr → Option Value} : ∀ {κs κs' : List SK} {vs ds : List Value}, RdKs m (κs ++ κs') vs ds → RdKs m κs (vs.take κs.length) (ds.take κs.length) ∧ RdKs m κs' (vs.drop κs.length) (ds.drop κs.length)
 | [], _, vs, ds, h => ⟨by simp [RdKs], by simpa using h⟩
 | κ :: κs, κs', vs, ds, h => by
  simp only [List.cons_append, RdKs] at h
  obtain ⟨v, us, d, es, rfl, rfl, q1, q2⟩ := h
  obtain ⟨k1, k2⟩ := RdKs.split q2
  simp only [List.length_cons, List.take_succ_cons, List.drop_succ_cons, RdKs]
  exact ⟨⟨v, _, d, _, rfl, rfl, q1, k1⟩, k2⟩
theorem SumOK.of_plain {P : Program} {I : World → Prop} {s : Sum} (hA : (kindsL s.args).all isPl = true) (hR : s.res.kinds.all isPl = true)
 (h : ∀ vs, KindsL (kindsL s.args) vs → ∀ w, I w → CallOK P s.f (packL s.args vs).toArray w fun v w' => v = s.res.pack (s.F vs) ∧ KindsL s.res.kinds (s.F vs) ∧ Below w.heap.size w w') : SumOK P I s := by
 intro ds vs w hw hr
 obtain rfl := RdKs.plain hA hr
 exact (h vs hr.kinds w hw).mono fun v w' ⟨h1, h2, h3⟩ => ⟨_, h1, ResKs.of_plain hR h2, h3⟩
theorem SumOK.plain {P : Program} {I : World → Prop} {s : Sum} (hA : (kindsL s.args).all isPl = true) (hR : s.res.kinds.all isPl = true) (h : SumOK P I s) :
 ∀ vs, KindsL (kindsL s.args) vs → ∀ w, I w → CallOK P s.f (packL s.args vs).toArray w fun v w' => v = s.res.pack (s.F vs) ∧ KindsL s.res.kinds (s.F vs) ∧ Below w.heap.size w w' := by
 intro vs hk w hw
 refine (h vs vs w hw (RdKs.of_plain hA hk)).mono fun v w' ⟨rs, h1, h2, h3⟩ => ?_
 obtain ⟨rfl, hk⟩ := ResKs.plain hR h2
 exact ⟨h1, hk, h3⟩
theorem pickC_spec {H : List (Nat × Blk)} : ∀ {S : List CSum} {f : FuncId} {args : List SV} {c : CSum} {xs : List SE}, pickC H S f args = some (c, xs) → c ∈ S ∧ c.f = f ∧ flatL H c.args args = some xs
 | [], _, _, _, _, h => by simp [pickC] at h
 | s :: S, f, args, c, xs, h => by
  simp only [pickC] at h
  split at h
  ·rename_i hb
   split at h
   ·rename_i ys hy
    simp at h
    obtain ⟨rfl, rfl⟩ := h
    exact ⟨by simp, beq_len hb, hy⟩
   ·obtain ⟨h1, h2⟩ := pickC_spec h
    exact ⟨List.mem_cons_of_mem _ h1, h2⟩
  ·obtain ⟨h1, h2⟩ := pickC_spec h
   exact ⟨List.mem_cons_of_mem _ h1, h2⟩
theorem findS_spec : ∀ {S : List Sum} {f : FuncId} {c : Sum}, findS S f = some c → c ∈ S ∧ c.f = f
 | [], _, _, h => by simp [findS] at h
 | s :: S, f, c, h => by
  simp only [findS] at h
  split at h
  ·rename_i hb
   simp at h
   subst h
   exact ⟨by simp, beq_len hb⟩
  ·obtain ⟨h1, h2⟩ := findS_spec h
   exact ⟨List.mem_cons_of_mem _ h1, h2⟩
theorem denL_append : ∀ (xs ys : List SE), denL (xs ++ ys) = denL xs ++ denL ys
 | [], _ => rfl
 | x :: xs, ys => by simp [denL, denL_append xs ys]
theorem KindsL.length {κs : List SK} {vs : List Value} (h : KindsL κs vs) : vs.length = κs.length := h.len
theorem KindsL.append : ∀ {κs κs' : List SK} {vs us : List Value}, KindsL κs vs → KindsL κs' us → KindsL (κs ++ κs') (vs ++ us)
 | [], _, _, _, h, k => by simp only [KindsL] at h; simpa [h] using k
 | _ :: _, _, _, _, h, k => by
  simp only [KindsL] at h
  obtain ⟨v, ws, rfl, a, b⟩ := h
  simp only [List.cons_append, KindsL]
  exact ⟨v, _, rfl, a, b.append k⟩
theorem KindsL.split : ∀ {κs κs' : List SK} {vs : List Value}, KindsL (κs ++ κs') vs → KindsL κs (vs.take κs.length) ∧ KindsL κs' (vs.drop κs.length)
 | [], _, vs, h => ⟨by simp [KindsL], by simpa using h⟩
 | κ :: κs, κs', vs, h => by
  simp only [List.cons_append, KindsL] at h
  obtain ⟨v, us, rfl, a, b⟩ := h
  obtain ⟨h1, h2⟩ := b.split
  simp only [List.length_cons, List.take_succ_cons, List.drop_succ_cons, KindsL]
  exact ⟨⟨v, _, rfl, a, h1⟩, h2⟩
theorem RdKs.chunk {m : Addr → Option Value} {κs : List SK} : ∀ {n i : Nat} {vs ds : List Value}, RdKs m (repK n κs) vs ds → i < n →
 ∃ cs, (chunkV κs.length n ds)[i]? = some (.agg cs.toArray) ∧ RdKs m κs ((vs.drop (i * κs.length)).take κs.length) cs
 | 0, i, _, _, _, hi => by omega
 | n + 1, i, vs, ds, h, hi => by
  simp only [repK] at h
  obtain ⟨h1, h2⟩ := h.split
  cases i with
  | zero => exact ⟨ds.take κs.length, rfl, by simpa using h1⟩
  | succ i =>
   obtain ⟨cs, q1, q2⟩ := RdKs.chunk h2 (show i < n by omega)
   refine ⟨cs, by simpa [chunkV] using q1, ?_⟩
   rw [List.drop_drop] at q2
   rw [show (i + 1) * κs.length = κs.length + i * κs.length by rw [Nat.add_mul, Nat.one_mul, Nat.add_comm]]
   exact q2
theorem chunkV_length (k : Nat) : ∀ (n : Nat) (vs : List Value), (chunkV k n vs).length = n
 | 0, _ => rfl
 | n + 1, vs => by simp [chunkV, chunkV_length k n]
structure LRel (D : Nat → Prop) (ρ : Rho) (H : List (Nat × Blk)) (w : World) : Prop where
 mem : ∀ a v, ρ.m a = some v → w.cell? a = some v
 blk : ∀ n b x, D n → find H n = some b → b.arr = none → ρ n = some x → ∃ vs : List Value, w.heap[x]? = some (.cells vs.toArray b.elem (0, 0)) ∧ CsRel ρ b.cells vs
 arr : ∀ n b κs c A, D n → find H n = some b → b.arr = some (κs, c) → ρ.a n = some A → ArrOK κs c b.elem A w
theorem LRel.of {ρ : Rho} {w : World} {B : Foot} {H : List (Nat × Blk)} (hH : HRel B ρ H w) (hX : XRel B ρ H w) : LRel (fun _ => True) ρ H w :=
 ⟨hX.mem, fun n b x _ hf _ hx => (hH.blk n b x hf hx).2, fun n b κs c A _ => hX.arr n b κs c A⟩
section
variable {D : Nat → Prop} {ρ : Rho} {w : World} {H : List (Nat × Blk)} (hL : LRel D ρ H w)
include hL
theorem flatA_sound {m : Addr → Option Value} (hm : ∀ a u, ρ.m a = some u → m a = some u) {κ : SK} {c : SC} (hD : ∀ n ∈ arN [c], D n)
 {x : SE} {v : Value} (ha : ∀ n b A g, n ∈ arN [c] → find H n = some b → b.arr ≠ none → ρ.a n = some A → A.g = some g → ∀ a : Addr, a.block = g → ∀ u, w.cell? a = some u → m a = some u) (h : flatA H κ c = some x) (hr : CRel ρ c v) : RdK m κ v x.den ∧ x.kind = some κ := by
 unfold flatA at h
 split at h
 ·rename_i n k
  split at h
  ·rename_i κs b hf
   split at h
   ·rename_i κs' y hy
    split at h
    ·rename_i hc
     obtain rfl := eqSKs_eq hc
     simp at h
     subst h
     have hr' : ARel ρ n k v := hr
     obtain ⟨A, L, hn, _⟩ := hr
     exact (hL.arr n b _ y A (hD n (by simp [arN])) hf hy hn).read hn hr' (fun g hg a hag u hu => ha n b A g (by simp [arN]) hf (by rw [hy]; simp) hn hg a hag u hu)
    ·simp at h
   ·simp at h
  ·simp at h
 ·exact flat1_sound hm h hr
omit hL in
theorem arN_cons {c : SC} {cs : List SC} {n : Nat} : n ∈ arN (c :: cs) ↔ n ∈ arN [c] ∨ n ∈ arN cs := by
 cases c <;> simp [arN]
theorem flatAs_sound {m : Addr → Option Value} (hm : ∀ a u, ρ.m a = some u → m a = some u) : ∀ {κs : List SK} {cs : List SC} {xs : List SE} {vs : List Value}, (∀ n ∈ arN cs, D n) →
 (∀ n b A g, n ∈ arN cs → find H n = some b → b.arr ≠ none → ρ.a n = some A → A.g = some g → ∀ a : Addr, a.block = g → ∀ u, w.cell? a = some u → m a = some u) → flatAs H κs cs = some xs → CsRel ρ cs vs → RdKs m κs vs (denL xs)
 | [], [], xs, vs, _, _, h, hr => by
  simp [flatAs] at h
  subst h
  cases vs with
  | nil => simp [RdKs, denL]
  | cons _ _ => exact hr.elim
 | κ :: κs, c :: cs, xs, vs, hD, ha, h, hr => by
  simp only [flatAs] at h
  split at h
  ·rename_i x r h1 h2
   simp at h
   subst h
   cases vs with
   | nil => exact hr.elim
   | cons v vs =>
    simp only [RdKs, denL]
    exact ⟨v, vs, x.den, denL r, rfl, rfl, (flatA_sound hL hm (fun n hn => hD n (arN_cons.2 (.inl hn))) (fun n b A g hn => ha n b A g (arN_cons.2 (.inl hn))) h1 hr.1).1, flatAs_sound hm (fun n hn => hD n (arN_cons.2 (.inr hn))) (fun n b A g hn => ha n b A g (arN_cons.2 (.inr hn))) h2 hr.2⟩
  ·simp at h
 | [], _ :: _, _, _, _, _, h, _ => by simp [flatAs] at h
 | _ :: _, [], _, _, _, _, h, _ => by simp [flatAs] at h
theorem flat0_sound {m : Addr → Option Value} (hm : ∀ a u, ρ.m a = some u → m a = some u) {κ : SK} {c : SC} (hD : ∀ n ∈ lent0 H c, D n) (hb : ∀ n b x, n ∈ lent0 H c → find H n = some b → ρ n = some x → ∀ a : Addr, a.block = x → ∀ u, w.cell? a = some u → m a = some u)
 {x : SE} {v : Value} (ha : ∀ n b A g, n ∈ lent0 H c → find H n = some b → b.arr ≠ none → ρ.a n = some A → A.g = some g → ∀ a : Addr, a.block = g → ∀ u, w.cell? a = some u → m a = some u) (h : flat0 H κ c = some x) (hr : CRel ρ c v) : RdK m κ v x.den ∧ x.kind = some κ := by
 unfold flat0 at h
 split at h
 ·rename_i n k
  split at h
  ·rename_i κs b hf
   split at h
   ·rename_i κs' y hy
    split at h
    ·rename_i hc
     obtain rfl := eqSKs_eq hc
     simp at h
     subst h
     have hr' : ARel ρ n k v := hr
     obtain ⟨A, L, hn, _⟩ := hr
     exact (hL.arr n b _ y A (hD n (by simp [lent0])) hf hy hn).read hn hr' (fun g hg a hag u hu => ha n b A g (by simp [lent0]) hf (by rw [hy]; simp) hn hg a hag u hu)
    ·simp at h
   ·simp at h
  ·simp at h
 ·rename_i n off
  split at h
  ·rename_i κs b hf
   split at h
   ·rename_i hba
    split at h
    ·rename_i hoff
     obtain rfl : off = 0 := beq_len hoff
     cases hx : flatAs H κs b.cells with
     | none => simp [hx] at h
     | some xs =>
      simp [hx] at h
      subst h
      obtain ⟨y, hρ, rfl⟩ := hr
      obtain ⟨vs, hcell, hvr⟩ := hL.blk n b y (hD n (by simp [lent0])) hf hba hρ
      have hin : ∀ k, k ∈ arN b.cells → k ∈ lent0 H (.p n 0) := fun k hk => by simp only [lent0, hf]; exact List.mem_cons_of_mem _ hk
      have hrd := flatAs_sound hL (m := m) hm (fun k hk => hD k (hin k hk)) (fun k b' A g hk => ha k b' A g (hin k hk)) hx hvr
      refine ⟨?_, rfl⟩
      simp only [RdK]
      refine ⟨⟨y, 0, none⟩, vs, denL xs, rfl, ?_, fun j u hj => ?_, hrd⟩
      ·simp only [SE.den, pkF, norm]
       simp
      ·rw [addr_add, Nat.zero_add]
       exact hb n b y (by simp [lent0]) hf hρ _ rfl u (by rw [cell_of hcell]; exact hj)
    ·simp at h
   ·simp at h
  ·simp at h
 ·rename_i n off len cap
  split at h
  ·rename_i κs b hf
   split at h
   ·rename_i hba
    split at h
    ·rename_i hoff
     simp only [Bool.and_eq_true] at hoff
     obtain ⟨ho, h4, hc⟩ := hoff
     obtain rfl : off = 0 := beq_len ho
     have h4 := Nat.le_of_ble_eq_true h4
     have hc := Nat.le_of_ble_eq_true hc
     cases hx : flat1s (repK len κs) b.cells with
     | none => simp [hx] at h
     | some xs =>
      simp [hx] at h
      subst h
      obtain ⟨y, hρ, rfl⟩ := hr
      obtain ⟨vs, hcell, hvr⟩ := hL.blk n b y (hD n (by simp [lent0])) hf hba hρ
      have hrd := flat1s_sound (m := m) hm hx hvr
      refine ⟨?_, rfl⟩
      simp only [RdK]
      refine ⟨some ⟨y, 0, none⟩, len, cap, chunkV κs.length len (denL xs), rfl, ?_, chunkV_length _ _ _, by omega, hc, (fun h => nomatch h), fun i e he => ?_⟩
      ·simp only [SE.den, lsF, norm]
       simp
      ·have hi : i < len := by
        have := (List.getElem?_eq_some_iff.1 he).1
        rwa [chunkV_length] at this
       obtain ⟨cs, q1, q2⟩ := RdKs.chunk hrd hi
       rw [q1] at he
       cases he
       refine ⟨⟨y, 0, none⟩, _, cs, rfl, rfl, fun j u hj => ?_, q2⟩
       rw [addr_add, addr_add, Nat.zero_add]
       refine hb n b y (by simp [lent0]) hf hρ _ rfl u ?_
       rw [cell_of hcell]
       have hlt := (List.getElem?_eq_some_iff.1 hj).1
       rw [List.getElem?_take_of_lt (by simp at hlt; omega), List.getElem?_drop] at hj
       exact hj
    ·simp at h
   ·simp at h
  ·simp at h
 ·exact flat1_sound hm h hr
theorem flatCaps_sound {m : Addr → Option Value} (hm : ∀ a u, ρ.m a = some u → m a = some u) : ∀ {κs : List SK} {caps : List Cap} {xs : List SE} {vs : List Value}, (∀ n ∈ lentCaps H caps, D n) → (∀ n b x, n ∈ lentCaps H caps → find H n = some b → ρ n = some x → ∀ a : Addr, a.block = x → ∀ u, w.cell? a = some u → m a = some u) →
 (∀ n b A g, n ∈ lentCaps H caps → find H n = some b → b.arr ≠ none → ρ.a n = some A → A.g = some g → ∀ a : Addr, a.block = g → ∀ u, w.cell? a = some u → m a = some u) → flatCaps H κs caps = some xs → CapsRel ρ caps vs → RdKs m κs vs (denL xs)
 | [], [], xs, vs, _, _, _, h, hr => by
  simp [flatCaps] at h
  subst h
  cases vs with
  | nil => simp [RdKs, denL]
  | cons _ _ => exact hr.elim
 | κ :: κs, c :: cs, xs, vs, hD, hb, ha, h, hr => by
  simp only [flatCaps] at h
  split at h
  ·rename_i x r h1 h2
   simp at h
   subst h
   cases vs with
   | nil => exact hr.elim
   | cons v vs =>
    simp only [RdKs, denL]
    refine ⟨v, vs, x.den, denL r, rfl, rfl, (flat0_sound hL hm (fun n hn => hD n (List.mem_append_left _ hn)) (fun n b x hn => hb n b x (List.mem_append_left _ hn)) (fun n b A g hn => ha n b A g (List.mem_append_left _ hn)) h1 ?_).1, flatCaps_sound hm (fun n hn => hD n (List.mem_append_right _ hn)) (fun n b x hn => hb n b x (List.mem_append_right _ hn)) (fun n b A g hn => ha n b A g (List.mem_append_right _ hn)) h2 ?_⟩
    ·cases c <;> exact hr.1
    ·cases c <;> exact hr.2
  ·simp at h
 | [], _ :: _, _, _, _, _, _, h, _ => by simp [flatCaps] at h
 | _ :: _, [], _, _, _, _, _, h, _ => by simp [flatCaps] at h
theorem flatC_sound {m : Addr → Option Value} (hm : ∀ a u, ρ.m a = some u → m a = some u) {κ : SK} {c : SC} (hD : ∀ n ∈ lentC H c, D n) (hb : ∀ n b x, n ∈ lentC H c → find H n = some b → ρ n = some x → ∀ a : Addr, a.block = x → ∀ u, w.cell? a = some u → m a = some u)
 {x : SE} {v : Value} (ha : ∀ n b A g, n ∈ lentC H c → find H n = some b → b.arr ≠ none → ρ.a n = some A → A.g = some g → ∀ a : Addr, a.block = g → ∀ u, w.cell? a = some u → m a = some u) (h : flatC H κ c = some x) (hr : CRel ρ c v) : RdK m κ v x.den ∧ x.kind = some κ := by
 cases c with
 | fn f caps =>
  cases κ with
  | f n κs =>
   simp only [flatC] at h
   split at h
   ·rename_i hc
    simp only [Bool.and_eq_true] at hc
    obtain rfl : n = f := beq_len hc.1
    cases hx : flatCaps H κs caps with
    | none => simp [hx] at h
    | some xs =>
     simp [hx] at h
     subst h
     obtain ⟨vs, hv, rfl⟩ := hr
     have hrd := flatCaps_sound hL hm hD hb ha hx hv
     refine ⟨?_, rfl⟩
     simp only [RdK]
     refine ⟨vs, denL xs, rfl, ?_, hc.2, hrd⟩
     simp only [SE.den, pkF, norm]
     simp
   ·simp at h
  | _ => simp [flatC] at h
 | e y => exact flat0_sound hL (c := .e y) hm hD hb ha h hr
 | p b off => exact flat0_sound hL (c := .p b off) hm hD hb ha h hr
 | sl b off len cap => exact flat0_sound hL (c := .sl b off len cap) hm hD hb ha h hr
 | le y => exact flat0_sound hL (c := .le y) hm hD hb ha h hr
 | nl z => exact flat0_sound hL (c := .nl z) hm hD hb ha h hr
 | ar n k => exact flat0_sound hL (c := .ar n k) hm hD hb ha h hr
 | pl y off => exact flat0_sound hL (c := .pl y off) hm hD hb ha h hr
 | pa n sz i off => exact flat0_sound hL (c := .pa n sz i off) hm hD hb ha h hr
 | np => exact flat0_sound hL (c := .np) hm hD hb ha h hr
theorem flatCs_sound {m : Addr → Option Value} (hm : ∀ a u, ρ.m a = some u → m a = some u) (hw : ∀ a u, w.cell? a = some u → m a = some u) : ∀ {κs : List SK} {cs : List SC} {xs : List SE} {vs : List Value}, (∀ n ∈ cs.flatMap (lentC H), D n) → flatCs H κs cs = some xs → CsRel ρ cs vs → RdKs m κs vs (denL xs)
 | [], [], xs, vs, _, h, hr => by
  simp [flatCs] at h
  subst h
  cases vs with
  | nil => simp [RdKs, denL]
  | cons _ _ => exact hr.elim
 | κ :: κs, c :: cs, xs, vs, hD, h, hr => by
  simp only [flatCs] at h
  split at h
  ·rename_i x r h1 h2
   simp at h
   subst h
   cases vs with
   | nil => exact hr.elim
   | cons v vs =>
    simp only [RdKs, denL]
    exact ⟨v, vs, x.den, denL r, rfl, rfl, (flatC_sound hL hm (fun n hn => hD n (by simp only [List.flatMap_cons, List.mem_append]; exact .inl hn)) (fun _ _ _ _ _ _ a _ u hu => hw a u hu) (fun _ _ _ _ _ _ _ _ _ a _ u hu => hw a u hu) h1 hr.1).1, flatCs_sound hm hw (fun n hn => hD n (by simp only [List.flatMap_cons, List.mem_append]; exact .inr hn)) h2 hr.2⟩
  ·simp at h
 | [], _ :: _, _, _, _, h, _ => by simp [flatCs] at h
 | _ :: _, [], _, _, _, h, _ => by simp [flatCs] at h
theorem flatP_sound {p : PS} {x : SP} {xs : List SE} {v : Value} (hD : ∀ n ∈ lentP H x, D n) (h : flatP H p x = some xs) (hr : PRel ρ x v) : ∃ us, (∀ rest, v = p.pack (us ++ rest)) ∧ us.length = p.kinds.length ∧ RdKs w.cell? p.kinds us (denL xs) := by
 cases p with
 | c κ =>
  cases x with
  | c x =>
   have k := flatCs_sound hL (m := w.cell?) hL.mem (fun _ _ h => h) (vs := [v]) (fun n hn => hD n (by simpa [lentP] using hn)) h ⟨hr, trivial⟩
   exact ⟨[v], fun _ => rfl, rfl, k⟩
  | agg cs => simp [flatP] at h
 | agg κs =>
  cases x with
  | c x => simp [flatP] at h
  | agg cs =>
   obtain ⟨vs, rfl, k⟩ := hr
   have k := flatCs_sound hL (m := w.cell?) hL.mem (fun _ _ h => h) (fun n hn => hD n hn) h k
   refine ⟨vs, fun rest => ?_, k.length.1, k⟩
   simp only [PS.pack]
   rw [List.take_left' k.length.1]
theorem flatL_sound : ∀ {ps : List PS} {svs : List SV} {xs : List SE} {vs : List Value}, (∀ n ∈ lentVs H svs, D n) → flatL H ps svs = some xs → VsRel ρ svs vs → ∃ us, vs = packL ps us ∧ RdKs w.cell? (kindsL ps) us (denL xs)
 | [], [], xs, vs, _, h, hr => by
  simp [flatL] at h
  subst h
  cases vs with
  | nil => exact ⟨[], rfl, by simp [kindsL, denL, RdKs]⟩
  | cons v vs => exact hr.elim
 | [], _ :: _, _, _, _, h, _ => by simp [flatL] at h
 | _ :: _, [], _, _, _, h, _ => by simp [flatL] at h
 | p :: ps, s :: svs, xs, vs, hD, h, hr => by
  cases s with
  | tup ys => simp [flatL] at h
  | any => simp [flatL] at h
  | p x =>
   simp only [flatL] at h
   split at h
   ·rename_i a b ha hb
    simp at h
    subst h
    cases vs with
    | nil => exact hr.elim
    | cons v vs =>
     obtain ⟨h1, h2⟩ := hr
     obtain ⟨us2, e2, k2⟩ := flatL_sound (fun n hn => hD n (by simp only [lentVs]; exact List.mem_append_right _ hn)) hb h2
     obtain ⟨us1, e1, l1, k1⟩ := flatP_sound hL (fun n hn => hD n (by simp only [lentVs]; exact List.mem_append_left _ hn)) ha h1
     refine ⟨us1 ++ us2, ?_, ?_⟩
     ·simp only [packL]
      rw [← e1, List.drop_left' l1, ← e2]
     ·rw [denL_append]
      exact k1.append k2
   ·simp at h
end
end Go.Proofs.YtdioaiepkhepaaaGreatDoor
namespace Go.Proofs.YtdioaiepkhepaaaGreatDoor
open Go.RowKit
section
variable {ρ : Rho}
theorem app_pl {f : Nat} {F : List Value → List Value} {xs : List SE} {j : Nat} {κ : SK} {v : Value} (hr : (F (denL xs))[j]? = some v) (hk : inPl κ v) : CRel ρ (.e (.app f F j κ xs)) v := by
 refine ⟨?_, κ, rfl, hk⟩
 simp only [SE.den, List.getD, hr, Option.getD_some, hk.norm]
theorem apps_pl {f : Nat} {F : List Value → List Value} {xs : List SE} {κs : List SK} {j : Nat} {ds rest : List Value} (hp : κs.all isPl = true) (hd : (F (denL xs)).drop j = ds ++ rest) (hk : KindsL κs ds) : CsRel ρ (appsS f F xs j κs) ds :=
 apps_rd (ρ := ρ) hd (RdKs.of_plain hp hk)
variable {P : Program} {fn : FuncId} {w w' : World}
theorem mkP_pl {f : Nat} {F : List Value → List Value} {xs : List SE} {n j : Nat} {p : PS} {vs ds rest : List Value} (hp : p.kinds.all isPl = true) (hd : (F (denL xs)).drop j = ds ++ rest) (h : ResKs P fn w w' p.kinds vs ds) (r2 : List Value) :
 PRel ρ (mkP f F xs n j p) (p.pack (vs ++ r2)) := by
 obtain ⟨rfl, hk⟩ := h.plain hp
 cases p with
 | c κ =>
  simp only [PS.kinds, KindsL] at hk hp
  obtain ⟨v, us, rfl, h1, rfl⟩ := hk
  have hpl : isPl κ = true := by simpa using hp
  have h2 := (inKind_pl hpl).1 h1
  have hg : (F (denL xs))[j]? = some v := by
   have := congrArg (fun l => l[0]?) hd
   simpa using this
  cases κ <;> first | exact app_pl (ρ := ρ) hg h2 | (simp [isPl] at hpl; done)
 | agg κs =>
  refine ⟨vs, ?_, apps_pl hp hd hk⟩
  simp only [PS.pack]
  rw [List.take_left' (show vs.length = κs.length from hk.length)]
theorem mkPs_none {f : Nat} {F : List Value → List Value} {xs : List SE} {n : Nat} : ∀ {ps : List PS} {i j : Nat} {vs ds : List Value}, arrsOf i ps = [] → plainR ps = true → (F (denL xs)).drop j = ds → ResKs P fn w w' (kindsL ps) vs ds → PsRel ρ (mkPs f F xs n j ps) (packL ps vs)
 | [], _, _, _, _, _, _, _, _ => trivial
 | p :: ps, i, j, vs, ds, ha, hp, hd, h => by
  obtain ⟨h1, h2⟩ := h.split
  have hq : p.kinds.all isPl = true ∧ plainR ps = true ∧ arrsOf (i + p.kinds.length) ps = [] := by
   cases p with
   | c κ => cases κ <;> first | (simp [arrsOf] at ha; done) | (simp only [plainR, Bool.and_eq_true] at hp; exact ⟨hp.1, hp.2, ha⟩)
   | agg κs => simp only [plainR, Bool.and_eq_true] at hp; exact ⟨hp.1, hp.2, ha⟩
  obtain ⟨q1, q2, q3⟩ := hq
  have hl := h1.length
  refine ⟨?_, ?_⟩
  ·have := mkP_pl (ρ := ρ) (f := f) (n := n) (xs := xs) (F := F) (j := j) q1 (ds := ds.take p.kinds.length) (rest := ds.drop p.kinds.length) (by rw [hd, List.take_append_drop]) h1 (vs.drop p.kinds.length)
   rwa [List.take_append_drop] at this
  ·exact mkPs_none (f := f) q3 q2 (by rw [← hd, List.drop_drop]) h2
theorem mkPs_one {f : Nat} {F : List Value → List Value} {xs : List SE} {n j' : Nat} {κs : List SK} : ∀ {ps : List PS} {j : Nat} {vs ds : List Value}, arrsOf j ps = [(j', κs)] → plainR ps = true → (F (denL xs)).drop j = ds → ResKs P fn w w' (kindsL ps) vs ds →
 ∃ t v d, resElems P fn = [t] ∧ FreshArr w w' t κs v d ∧ (F (denL xs))[j']? = some d ∧ ∀ ρ : Rho, ARel ρ n none v → PsRel ρ (mkPs f F xs n j ps) (packL ps vs)
 | [], _, _, _, ha, _, _, _ => by simp [arrsOf] at ha
 | p :: ps, j, vs, ds, ha, hp, hd, h => by
  by_cases hc : ∃ κ0, p = .c (.l κ0)
  ·obtain ⟨κ0, rfl⟩ := hc
   simp only [arrsOf, List.cons.injEq, Prod.mk.injEq] at ha
   obtain ⟨⟨rfl, rfl⟩, ha⟩ := ha
   simp only [plainR, Bool.and_eq_true] at hp
   simp only [kindsL, PS.kinds, List.cons_append, List.nil_append, ResKs] at h
   obtain ⟨v, us, d, es, rfl, rfl, ⟨t, h1, h2⟩, h3⟩ := h
   refine ⟨t, v, d, h1, h2, ?_, fun ρ hv => ⟨hv, ?_⟩⟩
   ·have := congrArg (fun l => l[0]?) hd
    simpa using this
   ·refine mkPs_none (f := f) (ρ := ρ) ha hp.2 ?_ h3
    show (F (denL xs)).drop (j + 1) = es
    rw [← List.drop_drop, hd]
    rfl
  ·obtain ⟨h1, h2⟩ := h.split
   have hq : p.kinds.all isPl = true ∧ plainR ps = true ∧ arrsOf (j + p.kinds.length) ps = [(j', κs)] := by
    cases p with
    | c κ => cases κ <;> first | exact absurd ⟨_, rfl⟩ hc | (simp only [plainR, Bool.and_eq_true] at hp; exact ⟨hp.1, hp.2, ha⟩)
    | agg κs => simp only [plainR, Bool.and_eq_true] at hp; exact ⟨hp.1, hp.2, ha⟩
   obtain ⟨q1, q2, q3⟩ := hq
   obtain ⟨t, v, d, k1, k2, k3, k4⟩ := mkPs_one (f := f) (n := n) (F := F) (xs := xs) q3 q2 (by rw [← hd, List.drop_drop]) h2
   refine ⟨t, v, d, k1, k2, k3, fun ρ hv => ⟨?_, k4 ρ hv⟩⟩
   have := mkP_pl (ρ := ρ) (f := f) (n := n) (xs := xs) (F := F) (j := j) q1 (ds := ds.take p.kinds.length) (rest := ds.drop p.kinds.length) (by rw [hd, List.take_append_drop]) h1 (vs.drop p.kinds.length)
   rwa [List.take_append_drop] at this
end
theorem HRel.below {B : Foot} {ρ : Rho} {H : List (Nat × Blk)} {w w' : World} (h : HRel B ρ H w) (hb : Below w.heap.size w w') : HRel B ρ H w' :=
 ⟨fun n x hx => Nat.lt_of_lt_of_le (h.lt n x hx) hb.size, h.inj, fun n b x hn hx => by
  obtain ⟨h1, h2, h3, h4⟩ := h.blk n b x hn hx
  exact ⟨h1, h2, by rw [hb.block x (h.lt n x hx)]; exact h3, h4⟩⟩
theorem ArrOK.heap {κs : List SK} {c : SE} {t : TypeId} {A : ArrV} {w w' : World} (h : ArrOK κs c t A w) (hg : ∀ g, A.g = some g → w'.heap[g]? = w.heap[g]?) : ArrOK κs c t A w' := by
 obtain ⟨es, us, h1, h2, h3, h4, h5, h6, h7, h8, h9, h10⟩ := h
 refine ⟨es, us, h1, h2, h3, h4, h5, h6, h7, h8, h9, ?_⟩
 rcases h10 with h10 | ⟨g, cap, cur, e1, e2, e3, e4⟩
 ·exact .inl h10
 ·refine .inr ⟨g, cap, cur, e1, e2, ?_, e4⟩
  rw [hg g (by simp only [Value.slice.injEq] at e1; cases hA : A.g with
   | none => simp [hA] at e1
   | some q => simp [hA] at e1; rw [e1.1])]
  exact e3
theorem ArrOK.lt {κs : List SK} {c : SE} {t : TypeId} {A : ArrV} {w : World} (h : ArrOK κs c t A w) {g : Nat} (hg : A.g = some g) : g < w.heap.size := by
 obtain ⟨es, us, h1, h2, h3, h4, h5, h6, h7, h8, h9⟩ := h
 exact (h9.lt g (by rw [own_block, hg])).2
theorem cellOf_lt {w : World} {a : Addr} {v : Value} (h : w.cell? a = some v) : a.block < w.heap.size := block_lt_of_cell h
theorem cell_heap {w w' : World} {a : Addr} (h : w'.heap[a.block]? = w.heap[a.block]?) : w'.cell? a = w.cell? a := World.cell?_of_block h
theorem XRel.below {B : Foot} {ρ : Rho} {H : List (Nat × Blk)} {w w' : World} (h : XRel B ρ H w) (hb : Below w.heap.size w w') : XRel B ρ H w' :=
 ⟨fun a v hm => by
  have := h.mem a v hm
  rw [cell_heap (hb.block _ (cellOf_lt this))]
  exact this, h.off, fun n b κs c A h1 h2 h3 => (h.arr n b κs c A h1 h2 h3).heap fun g hg => hb.block g ((h.arr n b κs c A h1 h2 h3).lt hg), h.offa, h.has, h.inja⟩
structure WRel (B : Foot) (w0 : World) (ρ : Rho) (H : List (Nat × Blk)) (nx : Nat) (w : World) : Prop where
 mem : HRel B ρ H w
 ext : XRel B ρ H w
 below : BelowF B w0 w
 fresh : ∀ n, nx ≤ n → ρ n = none
 fra : ∀ n, nx ≤ n → ρ.a n = none
 names : ∀ n b, find H n = some b → n < nx
structure StRel (B : Foot) (w0 : World) (ρ : Rho) (s : St) (a : Act) (w : World) : Prop extends WRel B w0 ρ s.H s.nx w where
 tmps : VsRel ρ s.T a.tmps.toList
 defers : a.defers = []
def newRho (ρ : Rho) (n x : Nat) : Rho := { ρ with b := fun m => if m = n then some x else ρ m }
def newArr (ρ : Rho) (n : Nat) (A : ArrV) : Rho := { ρ with a := fun m => if m = n then some A else ρ.a m }
theorem newRho_ext {ρ : Rho} {n x : Nat} (h : ρ n = none) : Ext ρ (newRho ρ n x) := ⟨fun m y hm => by
 simp only [newRho]
 split
 ·rename_i e; subst e; rw [h] at hm; cases hm
 ·exact hm, fun _ _ h => h, rfl⟩
theorem newArr_ext {ρ : Rho} {n : Nat} {A : ArrV} (h : ρ.a n = none) : Ext ρ (newArr ρ n A) := ⟨fun _ _ h => h, fun m y hm => by
 simp only [newArr]
 split
 ·rename_i e; subst e; rw [h] at hm; cases hm
 ·exact hm, rfl⟩
theorem HRel.alloc {B : Foot} {ρ : Rho} {H : List (Nat × Blk)} {w : World} (h : HRel B ρ H w) {n : Nat} (hn : ρ n = none) (hB : B.base ≤ w.heap.size) {cs : List SC} {vs : List Value} (t : TypeId) (hc : CsRel ρ cs vs) :
 HRel B (newRho ρ n w.heap.size) ((n, { cells := cs, elem := t, own := true }) :: H) (w.alloc (.cells vs.toArray t)) := by
 have hx := newRho_ext (x := w.heap.size) hn
 refine ⟨fun m x hm => ?_, fun m k x hm hk => ?_, fun m b x hf hm => ?_⟩
 ·simp only [newRho] at hm
  simp only [World.size_alloc]
  split at hm
  ·simp at hm; omega
  ·have := h.lt m x hm; omega
 ·simp only [newRho] at hm hk
  split at hm <;> split at hk
  ·rename_i e1 e2; rw [e1, e2]
  ·simp at hm; subst hm; have := h.lt k _ hk; omega
  ·simp at hk; subst hk; have := h.lt m _ hm; omega
  ·exact h.inj m k x hm hk
 ·simp only [newRho] at hm
  by_cases e : m = n
  ·subst e
   rw [if_pos rfl] at hm
   simp at hm
   subst hm
   simp only [find] at hf
   rw [if_pos (Nat.beq_refl _)] at hf
   simp at hf
   subst hf
   refine ⟨fun _ => .inl hB, vs, ?_, hc.mono hx⟩
   show (w.heap.push _)[w.heap.size]? = _
   simp
  ·rw [if_neg e] at hm
   simp only [find] at hf
   rw [if_neg (fun q => e (beq_len q).symm)] at hf
   obtain ⟨h1, us, h2, h3⟩ := h.blk m b x hf hm
   refine ⟨h1, us, ?_, h3.mono hx⟩
   rw [Below.heap_alloc _ _ _ (h.lt m x hm)]
   exact h2
theorem find_cons {H : List (Nat × Blk)} {n m : Nat} {x b : Blk} (h : find ((n, x) :: H) m = some b) : (m = n ∧ b = x) ∨ (m ≠ n ∧ find H m = some b) := by
 simp only [find] at h
 split at h
 ·rename_i e; have := beq_len e; subst this; simp at h; exact .inl ⟨rfl, h.symm⟩
 ·rename_i e; exact .inr ⟨fun q => e (by subst q; exact Nat.beq_refl _), h⟩
theorem find_del : ∀ {H : List (Nat × Blk)} {n m : Nat} {b : Blk}, find (del H n) m = some b → m ≠ n ∧ find H m = some b
 | [], _, _, _, h => by simp [del, find] at h
 | (k, x) :: H, n, m, b, h => by
  simp only [del] at h
  split at h
  ·rename_i e
   have := beq_len e
   subst this
   obtain ⟨h1, h2⟩ := find_del h
   refine ⟨h1, ?_⟩
   simp only [find]
   rw [if_neg (fun q => h1 (beq_len q).symm)]
   exact h2
  ·rename_i e
   rcases find_cons h with ⟨rfl, rfl⟩ | ⟨h1, h2⟩
   ·refine ⟨fun q => e (by subst q; exact Nat.beq_refl _), ?_⟩
    simp only [find]
    rw [if_pos (Nat.beq_refl _)]
   ·obtain ⟨h3, h4⟩ := find_del h2
    refine ⟨h3, ?_⟩
    simp only [find]
    rw [if_neg (fun q => h1 (beq_len q).symm)]
    exact h4
theorem find_delO {H : List (Nat × Blk)} {o : Option Nat} {m : Nat} {b : Blk} (h : find (delO H o) m = some b) : o ≠ some m ∧ find H m = some b := by
 cases o with
 | none => exact ⟨fun e => (by cases e), h⟩
 | some n => obtain ⟨h1, h2⟩ := find_del h; exact ⟨fun e => h1 (by cases e; rfl), h2⟩
theorem find_updA : ∀ {H : List (Nat × Blk)} {n m : Nat} {κs : List SK} {c : SE} {b : Blk}, find (updA H n κs c) m = some b → (m = n ∧ ∃ b0, find H n = some b0 ∧ b = { b0 with arr := some (κs, c) }) ∨ (m ≠ n ∧ find H m = some b)
 | [], _, _, _, _, _, h => by simp [updA, find] at h
 | (k, x) :: H, n, m, κs, c, b, h => by
  simp only [updA] at h
  split at h
  ·rename_i e
   have := beq_len e
   subst this
   rcases find_cons h with ⟨rfl, rfl⟩ | ⟨h1, h2⟩
   ·exact .inl ⟨rfl, x, by simp only [find]; rw [if_pos (Nat.beq_refl _)], rfl⟩
   ·exact .inr ⟨h1, by simp only [find]; rw [if_neg (fun q => h1 (beq_len q).symm)]; exact h2⟩
  ·rename_i e
   rcases find_cons h with ⟨rfl, rfl⟩ | ⟨h1, h2⟩
   ·exact .inr ⟨fun q => e (by subst q; exact Nat.beq_refl _), by simp only [find]; rw [if_pos (Nat.beq_refl _)]⟩
   ·rcases find_updA h2 with ⟨rfl, b0, h3, h4⟩ | ⟨h3, h4⟩
    ·refine .inl ⟨rfl, b0, ?_, h4⟩
     simp only [find]
     rw [if_neg e]
     exact h3
    ·refine .inr ⟨h3, ?_⟩
     simp only [find]
     rw [if_neg (fun q => h1 (beq_len q).symm)]
     exact h4
theorem XRel.alloc {B : Foot} {ρ : Rho} {H : List (Nat × Blk)} {w : World} (h : XRel B ρ H w) {n : Nat} (hn : ρ n = none) (hna : ρ.a n = none) {x : Blk} (hx : x.arr = none) (o : Obj) : XRel B (newRho ρ n w.heap.size) ((n, x) :: H) (w.alloc o) := by
 have hold : ∀ {y : Nat}, y < w.heap.size → (w.alloc o).heap[y]? = w.heap[y]? := fun hy => Below.heap_alloc _ _ _ hy
 have hm : ∀ a v, ρ.m a = some v → (w.alloc o).cell? a = some v := fun a v hv => by
  have := h.mem a v hv
  rw [cell_heap (hold (cellOf_lt this))]
  exact this
 have arrOf : ∀ {m : Nat} {b : Blk}, find ((n, x) :: H) m = some b → b.arr ≠ none → find H m = some b := fun hf hb => by
  rcases find_cons hf with ⟨rfl, rfl⟩ | ⟨_, h2⟩
  ·exact absurd hx hb
  ·exact h2
 refine ⟨hm, fun m b y hf hy a ha => ?_, fun m b κs c A hf hb hA => ?_, fun m b A g hf hb hA hg => ?_, fun m b hf => ?_, fun m m' b b' A A' g hf hf' hb hb' hA hA' hg hg' => h.inja m m' b b' A A' g (arrOf hf hb) (arrOf hf' hb') hb hb' hA hA' hg hg'⟩
 ·simp only [newRho] at hy
  split at hy
  ·simp at hy
   subst hy
   show ρ.m a = none
   cases hq : ρ.m a with
   | none => rfl
   | some v => have := cellOf_lt (h.mem a v hq); omega
  ·rcases find_cons hf with ⟨rfl, _⟩ | ⟨_, h2⟩
   ·rename_i e; exact absurd rfl e
   ·exact h.off m b y h2 hy a ha
 ·have hf' := arrOf hf (by rw [hb]; simp)
  exact (h.arr m b κs c A hf' hb hA).heap fun g hg => hold ((h.arr m b κs c A hf' hb hA).lt hg)
 ·have hf' := arrOf hf hb
  obtain ⟨q1, q2, q3⟩ := h.offa m b A g hf' hb hA hg
  refine ⟨q1, q2, fun k y hy => ?_⟩
  simp only [newRho] at hy
  split at hy
  ·simp at hy
   subst hy
   cases hba : b.arr with
   | none => exact absurd hba hb
   | some p => have := (h.arr m b p.1 p.2 A hf' hba hA).lt hg; omega
  ·exact q3 k y hy
 ·refine ⟨fun hb => (h.has m b (arrOf hf hb)).1 hb, fun hb => ?_⟩
  rcases find_cons hf with ⟨rfl, rfl⟩ | ⟨hne, h2⟩
  ·exact ⟨w.heap.size, by simp [newRho]⟩
  ·obtain ⟨y, hy⟩ := (h.has m b h2).2 hb
   exact ⟨y, by simp only [newRho]; rw [if_neg hne]; exact hy⟩
theorem WRel.below' {B : Foot} {w0 : World} {ρ : Rho} {H : List (Nat × Blk)} {nx : Nat} {w w' : World} (h : WRel B w0 ρ H nx w) (hB : B.base ≤ w0.heap.size) (hb : Below w.heap.size w w') : WRel B w0 ρ H nx w' :=
 ⟨h.mem.below hb, h.ext.below hb, h.below.trans (.of hb (Nat.le_trans hB h.below.size)), h.fresh, h.fra, h.names⟩
theorem WRel.alloc {B : Foot} {w0 : World} {ρ : Rho} {H : List (Nat × Blk)} {nx : Nat} {w : World} (h : WRel B w0 ρ H nx w) (hB : B.base ≤ w0.heap.size) {cs : List SC} {vs : List Value} (t : TypeId) (hc : CsRel ρ cs vs) :
 WRel B w0 (newRho ρ nx w.heap.size) ((nx, { cells := cs, elem := t, own := true }) :: H) (nx + 1) (w.alloc (.cells vs.toArray t)) ∧ Ext ρ (newRho ρ nx w.heap.size) := by
 have hn := h.fresh nx (Nat.le_refl _)
 have hBw : B.base ≤ w.heap.size := Nat.le_trans hB h.below.size
 refine ⟨⟨h.mem.alloc hn hBw t hc, h.ext.alloc hn (h.fra nx (Nat.le_refl _)) rfl _, h.below.alloc hBw _, fun m hm => ?_, fun m hm => h.fra m (by omega), fun m b hf => ?_⟩, newRho_ext hn⟩
 ·simp only [newRho]
  rw [if_neg (by omega)]
  exact h.fresh m (by omega)
 ·rcases find_cons hf with ⟨rfl, _⟩ | ⟨_, h2⟩
  ·omega
  ·have := h.names m b h2; omega
theorem XRel.store {B : Foot} {ρ : Rho} {H : List (Nat × Blk)} {w w' : World} {n x : Nat} {b : Blk} (h : XRel B ρ H w) (hb : find H n = some b) (hx : ρ n = some x) (cs : List SC) (ho : ∀ y, y ≠ x → w'.heap[y]? = w.heap[y]?) : XRel B ρ (upd H n cs) w' := by
 have back : ∀ {m : Nat} {c : Blk}, find (upd H n cs) m = some c → ∃ c0, find H m = some c0 ∧ c.arr = c0.arr ∧ c.own = c0.own ∧ c.elem = c0.elem := fun hf => by
  rcases find_upd H n _ cs _ hf with ⟨rfl, b0, h1, rfl⟩ | ⟨_, h1⟩
  ·exact ⟨b0, h1, rfl, rfl, rfl⟩
  ·exact ⟨_, h1, rfl, rfl, rfl⟩
 refine ⟨fun a v hm => ?_, fun m c y hf hy a ha => ?_, fun m c κs q A hf hc hA => ?_, fun m c A g hf hc hA hg => ?_, fun m c hf => ?_, fun m m' c c' A A' g hf hf' hc hc' hA hA' hg hg' => ?_⟩
 ·have hne : a.block ≠ x := fun e => by rw [h.off n b x hb hx a e] at hm; cases hm
  rw [cell_heap (ho _ hne)]
  exact h.mem a v hm
 ·obtain ⟨c0, h1, _⟩ := back hf
  exact h.off m c0 y h1 hy a ha
 ·obtain ⟨c0, h1, h2, h3, h4⟩ := back hf
  rw [h4]
  exact (h.arr m c0 κs q A h1 (by rw [← h2]; exact hc) hA).heap fun g hg => ho g (fun e => (h.offa m c0 A g h1 (by rw [← h2, hc]; simp) hA hg).2.2 n x hx e.symm)
 ·obtain ⟨c0, h1, h2, h3, h4⟩ := back hf
  rw [h3]
  exact h.offa m c0 A g h1 (by rw [← h2]; exact hc) hA hg
 ·obtain ⟨c0, h1, h2, _⟩ := back hf
  rw [h2]
  exact h.has m c0 h1
 ·obtain ⟨c0, h1, h2, _⟩ := back hf
  obtain ⟨c1, k1, k2, _⟩ := back hf'
  exact h.inja m m' c0 c1 A A' g h1 k1 (by rw [← h2]; exact hc) (by rw [← k2]; exact hc') hA hA' hg hg'
theorem HRel.grown {B : Foot} {ρ ρ' : Rho} {H H' : List (Nat × Blk)} {w w' : World} {row : Option Nat} (h : HRel B ρ H w) (hg : w.grownBy w' row) (hb : ∀ n, ρ' n = ρ n) (hx : Ext ρ ρ') (hrow : ∀ n x, ρ n = some x → some x ≠ row) (hH : ∀ n b x, find H' n = some b → ρ n = some x → ∃ b0, find H n = some b0 ∧ b.cells = b0.cells ∧ b.elem = b0.elem ∧ b.own = b0.own) : HRel B ρ' H' w' := by
 refine ⟨fun n x hn => ?_, fun n m x hn hm => ?_, fun n b x hf hn => ?_⟩
 ·rw [hb] at hn; exact Nat.lt_of_lt_of_le (h.lt n x hn) hg.size
 ·rw [hb] at hn hm; exact h.inj n m x hn hm
 ·rw [hb] at hn
  obtain ⟨b0, h1, h2, h3, h4⟩ := hH n b x hf hn
  obtain ⟨k1, vs, k2, k3⟩ := h.blk n b0 x h1 hn
  rw [h2, h3, h4]
  exact ⟨k1, vs, by rw [hg.block x (h.lt n x hn) (hrow n x hn)]; exact k2, k3.mono hx⟩
theorem WRel.arr {B : Foot} {w0 : World} {ρ : Rho} {H : List (Nat × Blk)} {nx : Nat} {w w' : World} (h : WRel B w0 ρ H nx w) (hB : B.base ≤ w0.heap.size) {old : Option Nat} (hold : ∀ n, old = some n → ∃ b, find H n = some b ∧ b.arr ≠ none ∧ b.own = true) {A : ArrV} {κs : List SK} {c : SE} {t : TypeId}
 (hA : ArrOK κs c t A w') (hg : w.grownBy w' (rowOf ρ old)) (hnew : ∀ g, A.g = some g → w.heap.size ≤ g ∨ rowOf ρ old = some g) :
 WRel B w0 (newArr ρ nx A) ((nx, { cells := [], elem := t, own := true, arr := some (κs, c) }) :: delO H old) (nx + 1) w' ∧ Ext ρ (newArr ρ nx A) := by
 have hna := h.fra nx (Nat.le_refl _)
 have hx := newArr_ext (A := A) hna
 have hBw : B.base ≤ w.heap.size := Nat.le_trans hB h.below.size
 have rowA : ∀ g, rowOf ρ old = some g → ∃ n b Ao, old = some n ∧ find H n = some b ∧ b.arr ≠ none ∧ b.own = true ∧ ρ.a n = some Ao ∧ Ao.g = some g := by
  intro g hr
  cases old with
  | none => simp [rowOf] at hr
  | some n =>
   obtain ⟨b, h1, h2, h3⟩ := hold n rfl
   simp only [rowOf] at hr
   cases hAo : ρ.a n with
   | none => simp [hAo] at hr
   | some Ao => simp [hAo] at hr; exact ⟨n, b, Ao, rfl, h1, h2, h3, hAo, hr⟩
 have rowX : ∀ n x, ρ n = some x → some x ≠ rowOf ρ old := by
  intro n x hn e
  obtain ⟨m, b, Ao, _, h1, h2, _, h3, h4⟩ := rowA x e.symm
  exact (h.ext.offa m b Ao x h1 h2 h3 h4).2.2 n x hn rfl
 have rowM : ∀ a : Addr, some a.block = rowOf ρ old → ρ.m a = none := by
  intro a e
  obtain ⟨m, b, Ao, _, h1, h2, _, h3, h4⟩ := rowA _ e.symm
  exact (h.ext.offa m b Ao _ h1 h2 h3 h4).2.1 a rfl
 have rowL : ∀ n b A' g, find (delO H old) n = some b → b.arr ≠ none → ρ.a n = some A' → A'.g = some g → some g ≠ rowOf ρ old := by
  intro n b A' g hf hb hA' hg' e
  obtain ⟨m, b', Ao, hm, h1, h2, _, h3, h4⟩ := rowA g e.symm
  obtain ⟨k1, k2⟩ := find_delO hf
  exact k1 (by rw [hm, h.ext.inja m n b' b Ao A' g h1 k2 h2 hb h3 hA' h4 hg'])
 have same : ∀ n b A' g, find (delO H old) n = some b → b.arr ≠ none → ρ.a n = some A' → A'.g = some g → w'.heap[g]? = w.heap[g]? ∧ g < w.heap.size := by
  intro n b A' g hf hb hA' hg'
  have hl : g < w.heap.size := by
   cases hba : b.arr with
   | none => exact absurd hba hb
   | some p => exact (h.ext.arr n b p.1 p.2 A' (find_delO hf).2 hba hA').lt hg'
  exact ⟨hg.block g hl (rowL n b A' g hf hb hA' hg'), hl⟩
 have aOld : ∀ n, n ≠ nx → (newArr ρ nx A).a n = ρ.a n := fun n hn => by simp only [newArr]; rw [if_neg hn]
 have aNew : (newArr ρ nx A).a nx = some A := by simp [newArr]
 refine ⟨⟨?_, ⟨fun a v hm => ?_, fun n b x hf hn a ha => ?_, fun n b κs' c' A' hf hb hA' => ?_, fun n b A' g hf hb hA' hg' => ?_, fun n b hf => ?_, fun n n' b b' A1 A2 g hf hf' hb hb' h1 h2 hg1 hg2 => ?_⟩, h.below.trans (BelowF.grown hg hBw fun k hk => ?_), fun n hn => h.fresh n (by omega), fun n hn => ?_, fun n b hf => ?_⟩, hx⟩
 ·refine h.mem.grown hg (fun n => rfl) hx rowX fun n b x hf hn => ?_
  rcases find_cons hf with ⟨rfl, _⟩ | ⟨_, h2⟩
  ·rw [h.fresh n (Nat.le_refl _)] at hn; cases hn
  ·exact ⟨b, (find_delO h2).2, rfl, rfl, rfl⟩
 ·replace hm : ρ.m a = some v := hm
  have hm' := h.ext.mem a v hm
  rw [cell_heap (hg.block _ (cellOf_lt hm') (fun e => by rw [rowM a e] at hm; cases hm))]
  exact hm'
 ·rcases find_cons hf with ⟨rfl, _⟩ | ⟨_, h2⟩
  ·rw [show (newArr ρ n A) n = ρ n from rfl, h.fresh n (Nat.le_refl _)] at hn; cases hn
  ·exact h.ext.off n b x (find_delO h2).2 hn a ha
 ·rcases find_cons hf with ⟨rfl, rfl⟩ | ⟨hne, h2⟩
  ·rw [aNew] at hA'
   simp at hA' hb
   subst hA'
   obtain ⟨rfl, rfl⟩ := hb
   exact hA
  ·rw [aOld n hne] at hA'
   exact (h.ext.arr n b κs' c' A' (find_delO h2).2 hb hA').heap fun g hg' => (same n b A' g h2 (by rw [hb]; simp) hA' hg').1
 ·rcases find_cons hf with ⟨rfl, rfl⟩ | ⟨hne, h2⟩
  ·rw [aNew] at hA'
   simp at hA'
   subst hA'
   refine ⟨fun _ => ?_, fun a ha => ?_, fun m y hm e => ?_⟩
   ·rcases hnew g hg' with q | q
    ·exact .inl (Nat.le_trans hBw q)
    ·obtain ⟨m, b', Ao, _, h1, h2, h3, h4, h5⟩ := rowA g q
     exact (h.ext.offa m b' Ao g h1 h2 h4 h5).1 h3
   ·rcases hnew g hg' with q | q
    ·show ρ.m a = none
     cases hq : ρ.m a with
     | none => rfl
     | some v => have := cellOf_lt (h.ext.mem a v hq); omega
    ·exact rowM a (by rw [ha, q])
   ·subst e
    rcases hnew y hg' with q | q
    ·have := h.mem.lt m y hm; omega
    ·exact rowX m y hm q.symm
  ·rw [aOld n hne] at hA'
   exact h.ext.offa n b A' g (find_delO h2).2 hb hA' hg'
 ·rcases find_cons hf with ⟨rfl, rfl⟩ | ⟨hne, h2⟩
  ·exact ⟨fun _ => ⟨A, aNew⟩, fun e => by simp at e⟩
  ·rw [aOld n hne]
   exact h.ext.has n b (find_delO h2).2
 ·have newOld : ∀ {m : Nat} {b : Blk} {A' : ArrV}, find (delO H old) m = some b → b.arr ≠ none → ρ.a m = some A' → A'.g = some g → A.g = some g → False := fun {m b A'} k1 k2 k3 k4 k5 => by
   obtain ⟨_, hl⟩ := same m b A' g k1 k2 k3 k4
   rcases hnew g k5 with q | q
   ·omega
   ·exact rowL m b A' g k1 k2 k3 k4 q.symm
  rcases find_cons hf with ⟨rfl, rfl⟩ | ⟨hne, k2⟩
  ·rcases find_cons hf' with ⟨rfl, rfl⟩ | ⟨hne', k2'⟩
   ·rfl
   ·rw [aNew] at h1
    rw [aOld n' hne'] at h2
    cases h1
    exact (newOld k2' hb' h2 hg2 hg1).elim
  ·rw [aOld n hne] at h1
   rcases find_cons hf' with ⟨rfl, rfl⟩ | ⟨hne', k2'⟩
   ·rw [aNew] at h2
    cases h2
    exact (newOld k2 hb h1 hg1 hg2).elim
   ·rw [aOld n' hne'] at h2
    exact h.ext.inja n n' b b' A1 A2 g (find_delO k2).2 (find_delO k2').2 hb hb' h1 h2 hg1 hg2
 ·obtain ⟨m, b', Ao, _, h1, h2, h3, h4, h5⟩ := rowA k hk
  exact (h.ext.offa m b' Ao k h1 h2 h4 h5).1 h3
 ·rw [aOld n (by omega)]
  exact h.fra n (by omega)
 ·rcases find_cons hf with ⟨rfl, _⟩ | ⟨_, h2⟩
  ·omega
  ·have := h.names n b (find_delO h2).2; omega
theorem WRel.sta {B : Foot} {w0 : World} {ρ : Rho} {H : List (Nat × Blk)} {nx : Nat} {w w' : World} (h : WRel B w0 ρ H nx w) (hB : B.base ≤ w0.heap.size) {n : Nat} {A : ArrV} {g : Nat} {b : Blk} {κs : List SK} {c : SE} (hn : ρ.a n = some A) (hgA : A.g = some g) (hb : find H n = some b) (hba : b.arr ≠ none) (hown : b.own = true)
 (hA : ArrOK κs c b.elem A w') (hg : w.grownBy w' (some g)) : WRel B w0 ρ (updA H n κs c) nx w' := by
 have hBw : B.base ≤ w.heap.size := Nat.le_trans hB h.below.size
 obtain ⟨o1, o2, o3⟩ := h.ext.offa n b A g hb hba hn hgA
 have back : ∀ {m : Nat} {d : Blk}, find (updA H n κs c) m = some d → ∃ d0, find H m = some d0 ∧ (d.arr ≠ none → d0.arr ≠ none) ∧ d.own = d0.own ∧ d.elem = d0.elem ∧ d.cells = d0.cells := fun hf => by
  rcases find_updA hf with ⟨rfl, b0, h1, rfl⟩ | ⟨_, h1⟩
  ·rw [hb] at h1; cases h1; exact ⟨b, hb, fun _ => hba, rfl, rfl, rfl⟩
  ·exact ⟨_, h1, fun h => h, rfl, rfl, rfl⟩
 refine ⟨h.mem.grown hg (fun n => rfl) (Ext.refl ρ) (fun m x hm e => o3 m x hm (by simpa using e)) fun m d x hf hm => ?_, ⟨fun a v hm => ?_, fun m d x hf hm a ha => ?_, fun m d κs' c' A' hf hd hA' => ?_, fun m d A' g' hf hd hA' hg' => ?_, fun m d hf => ?_, fun m m' d d' A1 A2 g' hf hf' hd hd' h1 h2 hg1 hg2 => ?_⟩, h.below.trans (BelowF.grown hg hBw fun k hk => by simp at hk; subst hk; exact o1 hown), h.fresh, h.fra, fun m d hf => ?_⟩
 ·obtain ⟨d0, k1, _, k3, k4, k5⟩ := back hf
  exact ⟨d0, k1, k5, k4, k3⟩
 ·have hm' := h.ext.mem a v hm
  rw [cell_heap (hg.block _ (cellOf_lt hm') (fun e => by rw [o2 a (by simpa using e)] at hm; cases hm))]
  exact hm'
 ·obtain ⟨d0, k1, _⟩ := back hf
  exact h.ext.off m d0 x k1 hm a ha
 ·rcases find_updA hf with ⟨rfl, b0, h1, rfl⟩ | ⟨hne, h1⟩
  ·rw [hb] at h1
   cases h1
   rw [hn] at hA'
   cases hA'
   simp at hd
   obtain ⟨rfl, rfl⟩ := hd
   exact hA
  ·refine (h.ext.arr m d κs' c' A' h1 hd hA').heap fun g' hg' => hg.block g' ((h.ext.arr m d κs' c' A' h1 hd hA').lt hg') fun e => ?_
   simp at e
   subst e
   exact hne (h.ext.inja m n d b A' A g' h1 hb (by rw [hd]; simp) hba hA' hn hg' hgA)
 ·obtain ⟨d0, k1, k2, k3, _⟩ := back hf
  rw [k3]
  exact h.ext.offa m d0 A' g' k1 (k2 hd) hA' hg'
 ·rcases find_updA hf with ⟨rfl, b0, h1, rfl⟩ | ⟨_, h1⟩
  ·exact ⟨fun _ => ⟨A, hn⟩, fun e => by simp at e⟩
  ·exact h.ext.has m d h1
 ·obtain ⟨d0, k1, k2, _⟩ := back hf
  obtain ⟨d1, k1', k2', _⟩ := back hf'
  exact h.ext.inja m m' d0 d1 A1 A2 g' k1 k1' (k2 hd) (k2' hd') h1 h2 hg1 hg2
 ·obtain ⟨d0, k1, _⟩ := back hf
  exact h.names m d0 k1
end Go.Proofs.YtdioaiepkhepaaaGreatDoor
namespace Go.Proofs.YtdioaiepkhepaaaGreatDoor
open Go.RowKit
def Fits (mk : Nat → SK → SE) (j : Nat) (κs : List SK) (ds : List Value) : Prop := ∀ i κ, κs[i]? = some κ → (mk (j + i) κ).kind = some κ ∧ ∃ d, ds[i]? = some d ∧ (mk (j + i) κ).den = d
theorem Fits.append {mk : Nat → SK → SE} {j : Nat} {κs κs' : List SK} {ds ds' : List Value} (hl : ds.length = κs.length) (h : Fits mk j (κs ++ κs') (ds ++ ds')) : Fits mk j κs ds ∧ Fits mk (j + κs.length) κs' ds' := by
 refine ⟨fun i κ hi => ?_, fun i κ hi => ?_⟩
 ·have hlt : i < κs.length := (List.getElem?_eq_some_iff.1 hi).1
  obtain ⟨h1, d, h2, h3⟩ := h i κ (by rw [List.getElem?_append_left hlt]; exact hi)
  exact ⟨h1, d, by rw [List.getElem?_append_left (by omega)] at h2; exact h2, h3⟩
 ·obtain ⟨h1, d, h2, h3⟩ := h (κs.length + i) κ (by rw [List.getElem?_append_right (by omega)]; simpa using hi)
  rw [← Nat.add_assoc] at h1 h3
  refine ⟨h1, d, ?_, h3⟩
  rw [List.getElem?_append_right (by omega)] at h2
  rw [hl] at h2
  simpa using h2
theorem fits_val {ds : List Value} {κs : List SK} {j : Nat} (h : KindsL κs (ds.drop j)) : Fits (valMk ds) j κs (ds.drop j) := by
 intro i κ hi
 obtain ⟨v, h1, h2⟩ := h.get hi
 refine ⟨rfl, v, h1, ?_⟩
 rw [List.getElem?_drop] at h1
 simp only [valMk, SE.den, List.getD, h1, Option.getD_some, h2.norm]
theorem fits_app {f : Nat} {F : List Value → List Value} {xs : List SE} {κs : List SK} {j : Nat} (h : KindsL κs ((F (denL xs)).drop j)) : Fits (fun j κ => .app f F j κ xs) j κs ((F (denL xs)).drop j) := by
 intro i κ hi
 obtain ⟨v, h1, h2⟩ := h.get hi
 refine ⟨rfl, v, h1, ?_⟩
 rw [List.getElem?_drop] at h1
 simp only [SE.den, List.getD, h1, Option.getD_some, h2.norm]
section inst
variable {ρ : Rho}
theorem hole_rel {κ : SK} {x y : SE} {v : Value} (hk : y.kind = some κ) (hd : y.den = x.den) (h : RdK ρ.m κ v x.den) : CRel ρ (cellK κ y) v := cellK_rel hk (by rw [hd]; exact h)
end inst
theorem lookN_bind {θ θ' : List (Nat × Nat)} {b n : Nat} (h : bindN θ b n = some θ') : lookN θ' b = some n ∧ (∀ k m, lookN θ k = some m → lookN θ' k = some m) ∧ (∀ k m, lookN θ' k = some m → (k = b ∧ m = n) ∨ lookN θ k = some m) ∧ (lookN θ b = some n ∨ (lookN θ b = none ∧ ∀ k, lookN θ k ≠ some n)) := by
 unfold bindN at h
 split at h
 ·rename_i m hm
  split at h
  ·rename_i hb
   have hb : m = n := beq_len hb
   subst hb
   simp at h
   subst h
   exact ⟨hm, fun _ _ h => h, fun _ _ h => .inr h, .inl hm⟩
  ·simp at h
 ·rename_i hm
  split at h
  ·simp at h
  ·rename_i hany
   simp at h
   subst h
   refine ⟨by simp only [lookN]; rw [if_pos (Nat.beq_refl _)], fun k m hk => ?_, fun k m hk => ?_, .inr ⟨hm, fun k hk => ?_⟩⟩
   ·simp only [lookN]
    split
    ·rename_i e
     have e : b = k := beq_len e
     subst e
     rw [hm] at hk
     cases hk
    ·exact hk
   ·simp only [lookN] at hk
    split at hk
    ·rename_i e
     have e : b = k := beq_len e
     subst e
     simp at hk
     exact .inl ⟨rfl, hk.symm⟩
    ·exact .inr hk
   ·have : ∀ l : List (Nat × Nat), lookN l k = some n → (l.any fun p => Nat.beq p.2 n) = true := by
     intro l
     induction l with
     | nil => intro h; simp [lookN] at h
     | cons p l ih =>
      obtain ⟨a, c⟩ := p
      intro h
      simp only [lookN] at h
      split at h
      ·simp at h; subst h; simp [List.any_cons]
      ·simp only [List.any_cons, ih h, Bool.or_true]
    exact hany (this θ hk)
theorem lookN_mem : ∀ {θ : List (Nat × Nat)} {k n : Nat}, lookN θ k = some n → (k, n) ∈ θ
 | [], _, _, h => by simp [lookN] at h
 | (a, c) :: l, k, n, h => by
  simp only [lookN] at h
  split at h
  ·rename_i e
   have e : a = k := beq_len e
   subst e
   simp at h
   subst h
   simp
  ·exact List.mem_cons_of_mem _ (lookN_mem h)
def InjN (θ : List (Nat × Nat)) : Prop := ∀ k k' n, lookN θ k = some n → lookN θ k' = some n → k = k'
theorem InjN.bind {θ θ' : List (Nat × Nat)} {b n : Nat} (h : InjN θ) (hb : bindN θ b n = some θ') : InjN θ' := by
 obtain ⟨h1, h2, h3, h4⟩ := lookN_bind hb
 intro k k' m hk hk'
 rcases h4 with h4 | ⟨h4, h5⟩
 ·have back : ∀ k m, lookN θ' k = some m → lookN θ k = some m := fun k m hk => by
   rcases h3 k m hk with ⟨rfl, rfl⟩ | h
   ·exact h4
   ·exact h
  exact h k k' m (back k m hk) (back k' m hk')
 ·rcases h3 k m hk with ⟨rfl, rfl⟩ | q
  ·rcases h3 k' m hk' with ⟨rfl, _⟩ | q'
   ·rfl
   ·exact absurd q' (h5 k')
  ·rcases h3 k' m hk' with ⟨rfl, rfl⟩ | q'
   ·exact absurd q (h5 k)
   ·exact h k k' m q q'
structure Mono (m m' : MSt) : Prop where
 θ : ∀ b n, lookN m.θ b = some n → lookN m'.θ b = some n
 fz : ∀ n, n ∈ m.fz → n ∈ m'.fz
 H : ∀ n b, find m.H n = some b → find m'.H n = some b
theorem Mono.refl (m : MSt) : Mono m m := ⟨fun _ _ h => h, fun _ h => h, fun _ _ h => h⟩
theorem Mono.trans {a b c : MSt} (h : Mono a b) (k : Mono b c) : Mono a c := ⟨fun x n q => k.θ x n (h.θ x n q), fun n q => k.fz n (h.fz n q), fun n x q => k.H n x (h.H n x q)⟩
def Gs (m : MSt) (ρ : Rho) (x : Nat) : Prop := ∃ k n b, lookN m.θ k = some n ∧ find m.H n = some b ∧ (ρ n = some x ∨ (b.arr ≠ none ∧ ∃ A, ρ.a n = some A ∧ A.g = some x))
open Classical in
noncomputable def shp (m : MSt) (ρ : Rho) (w : World) : Rho :=
 { b := fun k => (lookN m.θ k).bind ρ.b, a := fun k => (lookN m.θ k).bind ρ.a, m := fun a => if Gs m ρ a.block then none else w.cell? a }
theorem shp_b {m : MSt} {ρ : Rho} {w : World} {k n : Nat} (h : lookN m.θ k = some n) : (shp m ρ w) k = ρ n := by simp [shp, h]
theorem shp_a {m : MSt} {ρ : Rho} {w : World} {k n : Nat} (h : lookN m.θ k = some n) : (shp m ρ w).a k = ρ.a n := by simp [shp, h]
theorem shp_bx {m : MSt} {ρ : Rho} {w : World} {k x : Nat} (h : (shp m ρ w) k = some x) : ∃ n, lookN m.θ k = some n ∧ ρ n = some x := by
 simp only [shp] at h
 cases hk : lookN m.θ k with
 | none => simp [hk] at h
 | some n => simp [hk] at h; exact ⟨n, rfl, h⟩
theorem shp_ax {m : MSt} {ρ : Rho} {w : World} {k : Nat} {A : ArrV} (h : (shp m ρ w).a k = some A) : ∃ n, lookN m.θ k = some n ∧ ρ.a n = some A := by
 simp only [shp] at h
 cases hk : lookN m.θ k with
 | none => simp [hk] at h
 | some n => simp [hk] at h; exact ⟨n, rfl, h⟩
theorem shp_m {m : MSt} {ρ : Rho} {w : World} {a : Addr} {v : Value} (hg : ¬ Gs m ρ a.block) (h : w.cell? a = some v) : (shp m ρ w).m a = some v := by
 simp only [shp]
 rw [if_neg hg]
 exact h
structure Done (B : Foot) (w0 : World) (m : MSt) (ρ : Rho) (w : World) : Prop where
 mem : WRel B w0 ρ m.H m.nx w
 apart : ∀ n, n ∈ m.fz → ∀ k, lookN m.θ k ≠ some n
 inj : InjN m.θ
section
variable {B : Foot} {w0 w : World} {m : MSt} {ρ : Rho} (D : Done B w0 m ρ w)
include D
theorem Done.gs_m {a : Addr} {v : Value} (h : ρ.m a = some v) : ¬ Gs m ρ a.block := by
 intro ⟨k, n, b, _, hf, hg⟩
 rcases hg with hg | ⟨hb, A, hA, hg⟩
 ·rw [D.mem.ext.off n b a.block hf hg a rfl] at h; cases h
 ·rw [(D.mem.ext.offa n b A a.block hf hb hA hg).2.1 a rfl] at h; cases h
theorem Done.read {a : Addr} {v : Value} (h : ρ.m a = some v) : (shp m ρ w).m a = some v := shp_m (D.gs_m h) (D.mem.ext.mem a v h)
theorem Done.lentB {n x : Nat} (hn : n ∈ m.fz) (hx : ρ n = some x) : ¬ Gs m ρ x := by
 intro ⟨k, n', b', hk, hf', hg⟩
 rcases hg with hg | ⟨hb, A, hA, hg⟩
 ·exact D.apart n hn k (by rw [D.mem.mem.inj n n' x hx hg]; exact hk)
 ·exact (D.mem.ext.offa n' b' A x hf' hb hA hg).2.2 n x hx rfl
theorem Done.lentA {n : Nat} {b : Blk} {A : ArrV} {g : Nat} (hn : n ∈ m.fz) (hf : find m.H n = some b) (hb : b.arr ≠ none) (hA : ρ.a n = some A) (hg : A.g = some g) : ¬ Gs m ρ g := by
 intro ⟨k, n', b', hk, hf', hq⟩
 rcases hq with hq | ⟨hb', A', hA', hg'⟩
 ·exact (D.mem.ext.offa n b A g hf hb hA hg).2.2 n' g hq rfl
 ·exact D.apart n hn k (by rw [D.mem.ext.inja n n' b b' A A' g hf hf' hb hb' hA hA' hg hg']; exact hk)
theorem Done.flat {κ : SK} {c : SC} {x : SE} {v : Value} (h : flatC m.H κ c = some x) (hl : ∀ n, n ∈ lentC m.H c → n ∈ m.fz) (hr : CRel ρ c v) : RdK (shp m ρ w).m κ v x.den ∧ x.kind = some κ := by
 refine flatC_sound (LRel.of D.mem.mem D.mem.ext) (fun a u hu => D.read hu) (fun _ _ => trivial) (fun n b x hn _ hx a ha u hu => ?_) (fun n b A g hn hf hb hA hg a ha u hu => ?_) h hr
 ·exact shp_m (by rw [ha]; exact D.lentB (hl n hn) hx) hu
 ·exact shp_m (by rw [ha]; exact D.lentA (hl n hn) hf hb hA hg) hu
end
theorem flatA_mono {H H' : List (Nat × Blk)} (hm : ∀ n b, find H n = some b → find H' n = some b) {κ : SK} {c : SC} {x : SE} (h : flatA H κ c = some x) : flatA H' κ c = some x := by
 cases c with
 | ar n k =>
  simp only [flatA] at h ⊢
  split at h
  ·rename_i κs b hf
   rw [hm n b hf]
   exact h
  ·simp at h
 | _ => exact h
theorem flatAs_mono {H H' : List (Nat × Blk)} (hm : ∀ n b, find H n = some b → find H' n = some b) : ∀ {κs : List SK} {cs : List SC} {xs : List SE}, flatAs H κs cs = some xs → flatAs H' κs cs = some xs
 | [], [], _, h => h
 | κ :: κs, c :: cs, xs, h => by
  simp only [flatAs] at h ⊢
  split at h
  ·rename_i x r h1 h2
   rw [flatA_mono hm h1, flatAs_mono hm h2]
   exact h
  ·simp at h
 | [], _ :: _, _, h => by simp [flatAs] at h
 | _ :: _, [], _, h => by simp [flatAs] at h
theorem flat0_mono {H H' : List (Nat × Blk)} (hm : ∀ n b, find H n = some b → find H' n = some b) {κ : SK} {c : SC} {x : SE} (h : flat0 H κ c = some x) : flat0 H' κ c = some x := by
 cases c with
 | ar n k =>
  simp only [flat0] at h ⊢
  split at h
  ·rename_i κs b hf
   rw [hm n b hf]
   exact h
  ·simp at h
 | p n off =>
  simp only [flat0] at h ⊢
  split at h
  ·rename_i κs b hf
   rw [hm n b hf]
   simp only
   split at h
   ·rename_i hba
    split at h
    ·rename_i ho
     rw [if_pos ho]
     cases hx : flatAs H κs b.cells with
     | none => rw [hx] at h; simp at h
     | some xs => rw [flatAs_mono hm hx]; rw [hx] at h; exact h
    ·simp at h
   ·simp at h
  ·simp at h
 | sl n off len cap =>
  simp only [flat0] at h ⊢
  split at h
  ·rename_i κs b hf
   rw [hm n b hf]
   exact h
  ·simp at h
 | _ => exact h
theorem flatCaps_mono {H H' : List (Nat × Blk)} (hm : ∀ n b, find H n = some b → find H' n = some b) : ∀ {κs : List SK} {caps : List Cap} {xs : List SE}, flatCaps H κs caps = some xs → flatCaps H' κs caps = some xs
 | [], [], _, h => h
 | κ :: κs, c :: cs, xs, h => by
  simp only [flatCaps] at h ⊢
  split at h
  ·rename_i x r h1 h2
   rw [flat0_mono hm h1, flatCaps_mono hm h2]
   exact h
  ·simp at h
 | [], _ :: _, _, h => by simp [flatCaps] at h
 | _ :: _, [], _, h => by simp [flatCaps] at h
theorem flatC_mono {H H' : List (Nat × Blk)} (hm : ∀ n b, find H n = some b → find H' n = some b) {κ : SK} {c : SC} {x : SE} (h : flatC H κ c = some x) : flatC H' κ c = some x := by
 cases c with
 | fn f caps =>
  cases κ with
  | f n κs =>
   simp only [flatC] at h ⊢
   split at h
   ·cases hx : flatCaps H κs caps with
    | none => simp [hx] at h
    | some xs => rename_i hc; rw [if_pos hc, flatCaps_mono hm hx]; rw [hx] at h; exact h
   ·simp at h
  | _ => simp [flatC] at h
 | e y => exact flat0_mono (κ := κ) (c := .e y) hm h
 | p b off => exact flat0_mono (κ := κ) (c := .p b off) hm h
 | sl b off len cap => exact flat0_mono (κ := κ) (c := .sl b off len cap) hm h
 | le y => exact flat0_mono (κ := κ) (c := .le y) hm h
 | nl z => exact flat0_mono (κ := κ) (c := .nl z) hm h
 | ar n k => exact flat0_mono (κ := κ) (c := .ar n k) hm h
 | pl y off => exact flat0_mono (κ := κ) (c := .pl y off) hm h
 | pa n sz i off => exact flat0_mono (κ := κ) (c := .pa n sz i off) hm h
 | np => exact flat0_mono (κ := κ) (c := .np) hm h
theorem lent0_mono {H H' : List (Nat × Blk)} (hm : ∀ n b, find H n = some b → find H' n = some b) {κ : SK} {c : SC} {x : SE} (h : flat0 H κ c = some x) : lent0 H' c = lent0 H c := by
 cases c with
 | p n off =>
  simp only [flat0] at h
  split at h
  ·rename_i κs b hf
   simp only [lent0, hf, hm n b hf]
  ·simp at h
 | _ => rfl
theorem lentCaps_mono {H H' : List (Nat × Blk)} (hm : ∀ n b, find H n = some b → find H' n = some b) : ∀ {κs : List SK} {caps : List Cap} {xs : List SE}, flatCaps H κs caps = some xs → lentCaps H' caps = lentCaps H caps
 | [], [], _, _ => rfl
 | κ :: κs, c :: cs, xs, h => by
  simp only [flatCaps] at h
  split at h
  ·rename_i x r h1 h2
   simp only [lentCaps, lent0_mono hm h1, lentCaps_mono hm h2]
  ·simp at h
 | [], _ :: _, _, h => by simp [flatCaps] at h
 | _ :: _, [], _, h => by simp [flatCaps] at h
theorem lentC_mono {H H' : List (Nat × Blk)} (hm : ∀ n b, find H n = some b → find H' n = some b) {κ : SK} {c : SC} {x : SE} (h : flatC H κ c = some x) : lentC H' c = lentC H c := by
 cases c with
 | fn f caps =>
  cases κ with
  | f n κs =>
   simp only [flatC] at h
   split at h
   ·cases hx : flatCaps H κs caps with
    | none => simp [hx] at h
    | some xs => exact lentCaps_mono hm hx
   ·simp at h
  | _ => simp [flatC] at h
 | e y => rfl
 | p b off => exact lent0_mono (κ := κ) (c := .p b off) hm h
 | sl b off len cap => rfl
 | le y => rfl
 | nl z => rfl
 | ar n k => rfl
 | pl y off => rfl
 | pa n sz i off => rfl
 | np => rfl
def Gives (B : Foot) (w0 w : World) (m m' : MSt) (ρ : Rho) (R : MSt → Rho → Prop) : Prop :=
 WRel B w0 ρ m.H m.nx w → InjN m.θ → Mono m m' ∧ InjN m'.θ ∧ ∃ ρ', Ext ρ ρ' ∧ WRel B w0 ρ' m'.H m'.nx w ∧ ∀ mF ρF, Mono m' mF → Ext ρ' ρF → Done B w0 mF ρF w → R mF ρF
theorem Gives.same {B : Foot} {w0 w : World} {m m' : MSt} {ρ : Rho} {R : MSt → Rho → Prop} (hm : Mono m m') (hi : InjN m.θ → InjN m'.θ) (hH : m'.H = m.H) (hx : m'.nx = m.nx) (h : ∀ mF ρF, Mono m' mF → Ext ρ ρF → Done B w0 mF ρF w → R mF ρF) : Gives B w0 w m m' ρ R :=
 fun hw hj => ⟨hm, hi hj, ρ, Ext.refl ρ, by rw [hH, hx]; exact hw, h⟩
theorem Gives.seq {B : Foot} {w0 w : World} {m m1 m2 : MSt} {ρ : Rho} {R1 R2 R : MSt → Rho → Prop} (h1 : Gives B w0 w m m1 ρ R1) (h2 : ∀ ρ1, Gives B w0 w m1 m2 ρ1 R2) (h : ∀ mF ρF, R1 mF ρF → R2 mF ρF → R mF ρF) : Gives B w0 w m m2 ρ R := by
 intro hw hj
 obtain ⟨a1, b1, ρ1, x1, w1, r1⟩ := h1 hw hj
 obtain ⟨a2, b2, ρ2, x2, w2, r2⟩ := h2 ρ1 w1 b1
 exact ⟨a1.trans a2, b2, ρ2, x1.trans x2, w2, fun mF ρF hm hx hD => h mF ρF (r1 mF ρF (a2.trans hm) (x2.trans hx) hD) (r2 mF ρF hm hx hD)⟩
def Means (w : World) (κs : List SK) (xs : List SE) (rel : Rho → Prop) (inst : (Nat → SK → SE) → Nat → Rho → Prop) : MSt → Rho → Prop := fun mF ρF =>
 xs.length = κs.length ∧ (rel ρF → KindsL κs (denL xs) ∧ ∀ mk j, Fits mk j κs (denL xs) → inst mk j (shp mF ρF w))
theorem denL_length : ∀ xs : List SE, (denL xs).length = xs.length
 | [] => rfl
 | _ :: xs => by simp [denL, denL_length xs]
theorem Means.append {w : World} {κs κs' : List SK} {xs ys : List SE} {r1 r2 r : Rho → Prop} {i1 i2 i : (Nat → SK → SE) → Nat → Rho → Prop} {mF : MSt} {ρF : Rho} (h1 : Means w κs xs r1 i1 mF ρF) (h2 : Means w κs' ys r2 i2 mF ρF) (hr : r ρF → r1 ρF ∧ r2 ρF)
 (hi : ∀ mk j ρ', i1 mk j ρ' → i2 mk (j + κs.length) ρ' → i mk j ρ') : Means w (κs ++ κs') (xs ++ ys) r i mF ρF := by
 obtain ⟨l1, k1⟩ := h1
 obtain ⟨l2, k2⟩ := h2
 refine ⟨by simp [l1, l2], fun hr' => ?_⟩
 obtain ⟨q1, q2⟩ := hr hr'
 obtain ⟨a1, b1⟩ := k1 q1
 obtain ⟨a2, b2⟩ := k2 q2
 refine ⟨by rw [denL_append]; exact a1.append a2, fun mk j hf => ?_⟩
 rw [denL_append] at hf
 obtain ⟨f1, f2⟩ := hf.append (by rw [denL_length, l1])
 exact hi mk j _ (b1 mk j f1) (b2 mk _ f2)
section
variable {B : Foot} {w0 w : World} (hB : B.base ≤ w0.heap.size)
theorem caps_sound : ∀ {κss : List (List SK)} {caps : List Cap} {m m' : MSt} {xs : List SE}, matchCaps m κss caps = some (m', xs) → ∀ ρ vs, Gives B w0 w m m' ρ (Means w (κss.map .q) xs (fun ρF => CapsRel ρF caps vs) (fun mk j ρ' => CapsRel ρ' (instCaps mk j κss) vs))
 | [], [], m, m', xs, h, ρ, vs => by
  simp [matchCaps] at h
  obtain ⟨rfl, rfl⟩ := h
  refine Gives.same (Mono.refl m) (fun h => h) rfl rfl fun mF ρF _ _ _ => ⟨rfl, fun hr => ⟨rfl, fun mk j _ => ?_⟩⟩
  cases vs with
  | nil => trivial
  | cons _ _ => exact hr.elim
 | κs :: r, c :: l, m, m', xs, h, ρ, vs => by
  simp only [matchCaps] at h
  split at h
  ·rename_i x hx
   split at h
   ·rename_i m2 ys hm
    simp at h
    obtain ⟨rfl, rfl⟩ := h
    have hlent : ∀ n, n ∈ lentC m.H c.sc → n ∈ (lentC m.H c.sc ++ m.fz) := fun n hn => List.mem_append_left _ hn
    have first : Gives B w0 w m { m with fz := lentC m.H c.sc ++ m.fz } ρ (Means w [.q κs] [x] (fun ρF => ∃ v, vs.head? = some v ∧ CRel ρF c.sc v) (fun mk j ρ' => ∃ v, vs.head? = some v ∧ QRel ρ' (mk j (.q κs)) 0 v)) := by
     refine Gives.same ⟨fun _ _ h => h, fun n h => List.mem_append_right _ h, fun _ _ h => h⟩ (fun h => h) rfl rfl fun mF ρF hmono hx' hD => ⟨rfl, fun ⟨v, hv, hr⟩ => ?_⟩
     obtain ⟨h1, h2⟩ := hD.flat (flatC_mono hmono.H hx) (fun n hn => hmono.fz n (hlent n (by rw [← lentC_mono hmono.H hx]; exact hn))) hr
     refine ⟨by simp only [denL, KindsL]; exact ⟨_, _, rfl, h1.kind, rfl⟩, fun mk j hf => ⟨v, hv, ?_⟩⟩
     obtain ⟨f1, d, f2, f3⟩ := hf 0 (.q κs) rfl
     simp only [denL, List.getElem?_cons_zero, Option.some.injEq] at f2
     exact hole_rel (ρ := shp mF ρF w) (κ := .q κs) f1 (by rw [f2]; exact f3) h1
    refine first.seq (fun ρ1 => caps_sound hm ρ1 vs.tail) fun mF ρF r1 r2 => ?_
    refine Means.append (κs := [.q κs]) (xs := [x]) r1 r2 (fun hr => ?_) fun mk j ρ' i1 i2 => ?_
    ·cases vs with
     | nil => exact hr.elim
     | cons v vs =>
      refine ⟨⟨v, rfl, ?_⟩, hr.2⟩
      cases c <;> exact hr.1
    ·obtain ⟨v, hv, hq⟩ := i1
     cases vs with
     | nil => cases hv
     | cons v' vs => simp at hv; subst hv; exact ⟨hq, i2⟩
   ·simp at h
  ·simp at h
 | [], _ :: _, _, _, _, h, _, _ => by simp [matchCaps] at h
 | _ :: _, [], _, _, _, h, _, _ => by simp [matchCaps] at h
include hB
theorem matchC_sound {p : PC} {c : SC} {m m' : MSt} {xs : List SE} (h : matchC m p c = some (m', xs)) (ρ : Rho) (v : Value) : Gives B w0 w m m' ρ (Means w p.kinds xs (fun ρF => CRel ρF c v) (fun mk j ρ' => CRel ρ' (p.inst (fun n => n) mk j) v)) := by
 unfold matchC at h
 split at h
 ·rename_i κ
  split at h
  ·rename_i x hx
   simp at h
   obtain ⟨rfl, rfl⟩ := h
   refine Gives.same ⟨fun _ _ h => h, fun n h => List.mem_append_right _ h, fun _ _ h => h⟩ (fun h => h) rfl rfl fun mF ρF hmono hx' hD => ⟨rfl, fun hr => ?_⟩
   obtain ⟨h1, h2⟩ := hD.flat (flatC_mono hmono.H hx) (fun n hn => hmono.fz n (List.mem_append_left _ (by rw [← lentC_mono hmono.H hx]; exact hn))) hr
   refine ⟨by simp only [denL, PC.kinds, KindsL]; exact ⟨_, _, rfl, h1.kind, rfl⟩, fun mk j hf => ?_⟩
   obtain ⟨f1, d, f2, f3⟩ := hf 0 κ rfl
   simp only [denL, List.getElem?_cons_zero, Option.some.injEq] at f2
   exact hole_rel (ρ := shp mF ρF w) f1 (by rw [f2]; exact f3) h1
  ·simp at h
 ·rename_i b off
  split at h
  ·rename_i n o
   split at h
   ·rename_i ho
    have ho : off = o := beq_len ho
    subst ho
    cases hbd : bindN m.θ b n with
    | none => simp [hbd] at h
    | some θ' =>
     simp [hbd] at h
     obtain ⟨rfl, rfl⟩ := h
     obtain ⟨q1, q2, q3, q4⟩ := lookN_bind hbd
     refine Gives.same ⟨q2, fun _ h => h, fun _ _ h => h⟩ (fun hi => hi.bind hbd) rfl rfl fun mF ρF hmono hx' hD => ⟨rfl, fun hr => ⟨rfl, fun mk j _ => ?_⟩⟩
     obtain ⟨x, h1, h2⟩ := hr
     exact ⟨x, by rw [shp_b (hmono.θ _ _ q1)]; exact h1, h2⟩
   ·simp at h
  ·simp at h
 ·rename_i f κss
  split at h
  ·rename_i f' caps
   split at h
   ·rename_i hf
    have hf : f = f' := beq_len hf
    subst hf
    intro hw hj
    by_cases hv : ∃ vs : List Value, v = .func (.func f) #[] vs.toArray
    ·obtain ⟨vs, rfl⟩ := hv
     obtain ⟨a1, b1, ρ', h1, h2, h3⟩ := caps_sound (B := B) (w0 := w0) (w := w) h ρ vs hw hj
     refine ⟨a1, b1, ρ', h1, h2, fun mF ρF hm hx hD => ?_⟩
     obtain ⟨l, k⟩ := h3 mF ρF hm hx hD
     refine ⟨l, fun hr => ?_⟩
     obtain ⟨us, hu, e⟩ := hr
     have e : vs = us := by simpa using e
     subst e
     obtain ⟨k1, k2⟩ := k hu
     exact ⟨k1, fun mk j hf => ⟨vs, k2 mk j hf, rfl⟩⟩
    ·obtain ⟨a1, b1, ρ', h1, h2, h3⟩ := caps_sound (B := B) (w0 := w0) (w := w) h ρ [] hw hj
     exact ⟨a1, b1, ρ', h1, h2, fun mF ρF hm hx hD => ⟨(h3 mF ρF hm hx hD).1, fun ⟨us, _, e⟩ => absurd ⟨us, e⟩ hv⟩⟩
   ·simp at h
  ·simp at h
 ·rename_i b κs t
  split at h
  ·rename_i n
   cases hbd : bindN m.θ b n with
   | none => simp [hbd] at h
   | some θ' =>
    simp [hbd] at h
    obtain ⟨rfl, rfl⟩ := h
    obtain ⟨q1, q2, q3, q4⟩ := lookN_bind hbd
    refine Gives.same ⟨q2, fun _ h => h, fun _ _ h => h⟩ (fun hi => hi.bind hbd) rfl rfl fun mF ρF hmono hx' hD => ⟨rfl, fun hr => ⟨rfl, fun mk j _ => ?_⟩⟩
    obtain ⟨A, L, h1, h2⟩ := hr
    exact ⟨A, L, by rw [shp_a (hmono.θ _ _ q1)]; exact h1, h2⟩
  ·cases hbd : bindN m.θ b m.nx with
   | none => simp [hbd] at h
   | some θ' =>
    simp only [hbd] at h
    split at h
    ·rename_i hp
     simp at h
     obtain ⟨rfl, rfl⟩ := h
     obtain ⟨q1, q2, q3, q4⟩ := lookN_bind hbd
     intro hw hj
     have hA : ArrOK κs (nilE κs) t ⟨none, 0, 0⟩ w := ⟨[], [], rfl, hp, rfl, rfl, fun _ => rfl, Nat.le_refl _, Nat.zero_le _, rfl, World.ownsRow_nil w 0 t κs.length⟩
     obtain ⟨k1, k2⟩ := hw.arr hB (old := none) (fun n h => by cases h) hA ⟨rfl, rfl, rfl, Nat.le_refl _, fun _ _ _ => rfl⟩ (fun g hg => by cases hg)
     refine ⟨⟨q2, fun _ h => h, fun n b' hf => ?_⟩, hj.bind hbd, _, k2, k1, fun mF ρF hmono hx' hD => ⟨rfl, fun hr => ⟨rfl, fun mk j _ => ?_⟩⟩⟩
     ·have := hw.names n b' hf
      simp only [find]
      rw [if_neg (fun e => by have := beq_len e; omega)]
      exact hf
     ·obtain ⟨p, rfl, hz⟩ := hr
      obtain rfl := hz rfl
      exact ⟨⟨none, 0, 0⟩, 0, by rw [shp_a (hmono.θ _ _ q1)]; exact hx'.a _ _ (by simp [newArr]), Nat.le_refl _, Nat.zero_le _, fun _ => rfl, Nat.le_refl _, fun _ => rfl, (fun x hx => by cases hx), rfl⟩
    ·simp at h
  ·simp at h
 ·split at h
  ·simp at h
   obtain ⟨rfl, rfl⟩ := h
   exact Gives.same (Mono.refl m) (fun h => h) rfl rfl fun mF ρF _ _ _ => ⟨rfl, fun hr => ⟨rfl, fun mk j _ => hr⟩⟩
  ·simp at h
end
end Go.Proofs.YtdioaiepkhepaaaGreatDoor
namespace Go.Proofs.YtdioaiepkhepaaaGreatDoor
open Go.RowKit
section
variable {B : Foot} {w0 w : World} (hB : B.base ≤ w0.heap.size)
include hB
theorem matchCs_sound : ∀ {ps : List PC} {cs : List SC} {m m' : MSt} {xs : List SE}, matchCs m ps cs = some (m', xs) → ∀ ρ vs, Gives B w0 w m m' ρ (Means w (kindsCs ps) xs (fun ρF => CsRel ρF cs vs) (fun mk j ρ' => CsRel ρ' (instCs (fun n => n) mk j ps) vs))
 | [], [], m, m', xs, h, ρ, vs => by
  simp [matchCs] at h
  obtain ⟨rfl, rfl⟩ := h
  refine Gives.same (Mono.refl m) (fun h => h) rfl rfl fun mF ρF _ _ _ => ⟨rfl, fun hr => ⟨rfl, fun mk j _ => ?_⟩⟩
  cases vs with
  | nil => trivial
  | cons _ _ => exact hr.elim
 | p :: ps, c :: cs, m, m', xs, h, ρ, vs => by
  simp only [matchCs] at h
  split at h
  ·rename_i m1 ys h1
   split at h
   ·rename_i m2 zs h2
    simp at h
    obtain ⟨rfl, rfl⟩ := h
    refine (matchC_sound hB h1 ρ (vs.headD undef)).seq (fun ρ1 => matchCs_sound h2 ρ1 vs.tail) fun mF ρF r1 r2 => ?_
    cases vs with
    | nil => exact ⟨by simp [r1.1, r2.1, kindsCs], fun hr => hr.elim⟩
    | cons v vs => exact Means.append r1 r2 (fun hr => hr) fun mk j ρ' i1 i2 => ⟨i1, i2⟩
   ·simp at h
  ·simp at h
 | [], _ :: _, _, _, _, h, _, _ => by simp [matchCs] at h
 | _ :: _, [], _, _, _, h, _, _ => by simp [matchCs] at h
theorem matchP_sound {p : PP} {c : SP} {m m' : MSt} {xs : List SE} (h : matchP m p c = some (m', xs)) (ρ : Rho) (v : Value) : Gives B w0 w m m' ρ (Means w p.kinds xs (fun ρF => PRel ρF c v) (fun mk j ρ' => PRel ρ' (p.inst (fun n => n) mk j) v)) := by
 cases p with
 | c p =>
  cases c with
  | c c => exact matchC_sound hB h ρ v
  | agg cs => simp [matchP] at h
 | agg ps =>
  cases c with
  | c c => simp [matchP] at h
  | agg cs =>
   simp only [matchP] at h
   intro hw hj
   by_cases hv : ∃ vs : List Value, v = .agg vs.toArray
   ·obtain ⟨vs, rfl⟩ := hv
    obtain ⟨a1, b1, ρ', h1, h2, h3⟩ := matchCs_sound (B := B) (w0 := w0) (w := w) hB h ρ vs hw hj
    refine ⟨a1, b1, ρ', h1, h2, fun mF ρF hm hx hD => ?_⟩
    obtain ⟨l, k⟩ := h3 mF ρF hm hx hD
    refine ⟨l, fun ⟨us, e, hu⟩ => ?_⟩
    have e : vs = us := by simpa using e
    subst e
    obtain ⟨k1, k2⟩ := k hu
    exact ⟨k1, fun mk j hf => ⟨vs, rfl, k2 mk j hf⟩⟩
   ·obtain ⟨a1, b1, ρ', h1, h2, h3⟩ := matchCs_sound (B := B) (w0 := w0) (w := w) hB h ρ [] hw hj
    exact ⟨a1, b1, ρ', h1, h2, fun mF ρF hm hx hD => ⟨(h3 mF ρF hm hx hD).1, fun ⟨us, e, _⟩ => absurd ⟨us, e⟩ hv⟩⟩
theorem matchPs_sound : ∀ {ps : List PP} {cs : List SP} {m m' : MSt} {xs : List SE}, matchPs m ps cs = some (m', xs) → ∀ ρ vs, Gives B w0 w m m' ρ (Means w (kindsPs ps) xs (fun ρF => PsRel ρF cs vs) (fun mk j ρ' => PsRel ρ' (instPs (fun n => n) mk j ps) vs))
 | [], [], m, m', xs, h, ρ, vs => by
  simp [matchPs] at h
  obtain ⟨rfl, rfl⟩ := h
  refine Gives.same (Mono.refl m) (fun h => h) rfl rfl fun mF ρF _ _ _ => ⟨rfl, fun hr => ⟨rfl, fun mk j _ => ?_⟩⟩
  cases vs with
  | nil => trivial
  | cons _ _ => exact hr.elim
 | p :: ps, c :: cs, m, m', xs, h, ρ, vs => by
  simp only [matchPs] at h
  split at h
  ·rename_i m1 ys h1
   split at h
   ·rename_i m2 zs h2
    simp at h
    obtain ⟨rfl, rfl⟩ := h
    refine (matchP_sound hB h1 ρ (vs.headD undef)).seq (fun ρ1 => matchPs_sound h2 ρ1 vs.tail) fun mF ρF r1 r2 => ?_
    cases vs with
    | nil => exact ⟨by simp [r1.1, r2.1, kindsPs], fun hr => hr.elim⟩
    | cons v vs => exact Means.append r1 r2 (fun hr => hr) fun mk j ρ' i1 i2 => ⟨i1, i2⟩
   ·simp at h
  ·simp at h
 | [], _ :: _, _, _, _, h, _, _ => by simp [matchPs] at h
 | _ :: _, [], _, _, _, h, _, _ => by simp [matchPs] at h
theorem matchV_sound {p : ShV} {c : SV} {m m' : MSt} {xs : List SE} (h : matchV m p c = some (m', xs)) (ρ : Rho) (v : Value) : Gives B w0 w m m' ρ (Means w p.kinds xs (fun ρF => VRel ρF c v) (fun mk j ρ' => VRel ρ' (p.inst (fun n => n) mk j) v)) := by
 cases p with
 | any =>
  simp [matchV] at h
  obtain ⟨rfl, rfl⟩ := h
  exact Gives.same (Mono.refl m) (fun h => h) rfl rfl fun mF ρF _ _ _ => ⟨rfl, fun hr => ⟨rfl, fun mk j _ => trivial⟩⟩
 | p p =>
  cases c with
  | p c => exact matchP_sound hB h ρ v
  | tup cs => simp [matchV] at h
  | any => simp [matchV] at h
 | tup ps =>
  cases c with
  | p c => simp [matchV] at h
  | any => simp [matchV] at h
  | tup cs =>
   simp only [matchV] at h
   intro hw hj
   by_cases hv : ∃ vs : List Value, v = .tuple vs.toArray
   ·obtain ⟨vs, rfl⟩ := hv
    obtain ⟨a1, b1, ρ', h1, h2, h3⟩ := matchPs_sound (B := B) (w0 := w0) (w := w) hB h ρ vs hw hj
    refine ⟨a1, b1, ρ', h1, h2, fun mF ρF hm hx hD => ?_⟩
    obtain ⟨l, k⟩ := h3 mF ρF hm hx hD
    refine ⟨l, fun ⟨us, e, hu⟩ => ?_⟩
    have e : vs = us := by simpa using e
    subst e
    obtain ⟨k1, k2⟩ := k hu
    exact ⟨k1, fun mk j hf => ⟨vs, rfl, k2 mk j hf⟩⟩
   ·obtain ⟨a1, b1, ρ', h1, h2, h3⟩ := matchPs_sound (B := B) (w0 := w0) (w := w) hB h ρ [] hw hj
    exact ⟨a1, b1, ρ', h1, h2, fun mF ρF hm hx hD => ⟨(h3 mF ρF hm hx hD).1, fun ⟨us, e, _⟩ => absurd ⟨us, e⟩ hv⟩⟩
theorem matchVs_sound : ∀ {ps : List ShV} {cs : List SV} {m m' : MSt} {xs : List SE}, matchVs m ps cs = some (m', xs) → ∀ ρ vs, Gives B w0 w m m' ρ (Means w (kindsVs ps) xs (fun ρF => VsRel ρF cs vs) (fun mk j ρ' => VsRel ρ' (instVs (fun n => n) mk j ps) vs))
 | [], [], m, m', xs, h, ρ, vs => by
  simp [matchVs] at h
  obtain ⟨rfl, rfl⟩ := h
  refine Gives.same (Mono.refl m) (fun h => h) rfl rfl fun mF ρF _ _ _ => ⟨rfl, fun hr => ⟨rfl, fun mk j _ => ?_⟩⟩
  cases vs with
  | nil => trivial
  | cons _ _ => exact hr.elim
 | p :: ps, c :: cs, m, m', xs, h, ρ, vs => by
  simp only [matchVs] at h
  split at h
  ·rename_i m1 ys h1
   split at h
   ·rename_i m2 zs h2
    simp at h
    obtain ⟨rfl, rfl⟩ := h
    refine (matchV_sound hB h1 ρ (vs.headD undef)).seq (fun ρ1 => matchVs_sound h2 ρ1 vs.tail) fun mF ρF r1 r2 => ?_
    cases vs with
    | nil => exact ⟨by simp [r1.1, r2.1, kindsVs], fun hr => hr.elim⟩
    | cons v vs => exact Means.append r1 r2 (fun hr => hr) fun mk j ρ' i1 i2 => ⟨i1, i2⟩
   ·simp at h
  ·simp at h
 | [], _ :: _, _, _, _, h, _, _ => by simp [matchVs] at h
 | _ :: _, [], _, _, _, h, _, _ => by simp [matchVs] at h
def BMeans (ρF : Rho) (w : World) (mF : MSt) (p : PB) (n : Nat) (b : Blk) (mk : Nat → SK → SE) (j : Nat) : Prop :=
 b.elem = p.elem ∧ (p.own = true → b.own = true) ∧
  ((p.arr = none ∧ b.arr = none ∧ ∃ x vs, ρF n = some x ∧ w.heap[x]? = some (.cells (List.toArray vs) b.elem (0, 0)) ∧ CsRel (shp mF ρF w) (instCs (fun n => n) mk j p.cells) vs) ∨
   (∃ κs c, p.arr = some κs ∧ b.arr = some (κs, c) ∧ b.cells = [] ∧ (mk j (.l κs)).kind = some (.l κs) ∧ (mk j (.l κs)).den = c.den))
theorem matchB_sound {p : PB} {b : Blk} {m m' : MSt} {xs : List SE} (h : matchB m p b = some (m', xs)) (ρ : Rho) {n : Nat} (hf : find m.H n = some b) :
 Gives B w0 w m m' ρ (fun mF ρF => xs.length = p.kinds.length ∧ KindsL p.kinds (denL xs) ∧ ∀ mk j, Fits mk j p.kinds (denL xs) → BMeans ρF w mF p n b mk j) := by
 unfold matchB at h
 split at h
 ·rename_i hc
  simp only [Bool.and_eq_true, Bool.or_eq_true, Bool.not_eq_true'] at hc
  have he : b.elem = p.elem := beq_len hc.1
  have ho : p.own = true → b.own = true := fun hp => by rcases hc.2 with q | q; rw [hp] at q; cases q; exact q
  split at h
  ·rename_i hp hb
   intro hw hj
   obtain ⟨x, hx⟩ := (hw.ext.has n b hf).2 hb
   obtain ⟨_, vs, hcell, hr⟩ := hw.mem.blk n b x hf hx
   obtain ⟨a1, b1, ρ', h1, h2, h3⟩ := matchCs_sound (B := B) (w0 := w0) (w := w) hB h ρ vs hw hj
   refine ⟨a1, b1, ρ', h1, h2, fun mF ρF hm hx' hD => ?_⟩
   obtain ⟨l, k⟩ := h3 mF ρF hm hx' hD
   have hk : p.kinds = kindsCs p.cells := by simp [PB.kinds, hp]
   rw [hk]
   obtain ⟨k1, k2⟩ := k (hr.mono (h1.trans hx'))
   exact ⟨l, k1, fun mk j hfit => ⟨he, ho, .inl ⟨hp, hb, x, vs, hx'.b _ _ (h1.b _ _ hx), hcell, k2 mk j hfit⟩⟩⟩
  ·rename_i κs κs' c hp hb
   split at h
   ·rename_i hq
    simp only [Bool.and_eq_true] at hq
    obtain rfl := eqSKs_eq hq.1
    have hce : b.cells = [] := by simpa using hq.2
    simp at h
    obtain ⟨rfl, rfl⟩ := h
    have hk : p.kinds = [.l κs'] := by simp [PB.kinds, hp]
    rw [hk]
    refine fun hw hj => ⟨Mono.refl m, hj, ρ, Ext.refl ρ, hw, fun mF ρF hm hx hD => ⟨rfl, ?_, fun mk j hfit => ⟨he, ho, .inr ⟨κs', c, hp, hb, hce, ?_⟩⟩⟩⟩
    ·obtain ⟨A, hA⟩ := (hw.ext.has n b hf).1 (by rw [hb]; simp)
     obtain ⟨es, us, q1, q2, q3, q4, q5, q6, q7, q8, q9⟩ := hw.ext.arr n b κs' c A hf hb hA
     simp only [denL, KindsL, inKind]
     refine ⟨c.den, [], rfl, ⟨es, q3, by simp only [maxLen] at q7; omega, fun e he => ?_⟩, rfl⟩
     obtain ⟨i, hi⟩ := List.getElem?_of_mem he
     obtain ⟨cs, k1, k2, _⟩ := q8.get hi
     exact ⟨cs, k1, k2⟩
    ·obtain ⟨f1, d, f2, f3⟩ := hfit 0 (.l κs') rfl
     simp only [denL, List.getElem?_cons_zero, Option.some.injEq] at f2
     exact ⟨f1, by rw [f2]; exact f3⟩
   ·simp at h
  ·simp at h
 ·simp at h
def HMeans (ρF : Rho) (w : World) (mF : MSt) (mk : Nat → SK → SE) : Nat → List (Nat × PB) → Prop
 | _, [] => True
 | j, p :: r => (∃ n b, lookN mF.θ p.1 = some n ∧ find mF.H n = some b ∧ BMeans ρF w mF p.2 n b mk j) ∧ HMeans ρF w mF mk (j + p.2.kinds.length) r
theorem matchH_sound : ∀ {ps : List (Nat × PB)} {m m' : MSt} {xs : List SE}, matchH m ps = some (m', xs) → ∀ ρ, Gives B w0 w m m' ρ (fun mF ρF => xs.length = (kindsH ps).length ∧ KindsL (kindsH ps) (denL xs) ∧ ∀ mk j, Fits mk j (kindsH ps) (denL xs) → HMeans ρF w mF mk j ps)
 | [], m, m', xs, h, ρ => by
  simp [matchH] at h
  obtain ⟨rfl, rfl⟩ := h
  exact Gives.same (Mono.refl m) (fun h => h) rfl rfl fun mF ρF _ _ _ => ⟨rfl, rfl, fun mk j _ => trivial⟩
 | (k, p) :: ps, m, m', xs, h, ρ => by
  simp only [matchH] at h
  split at h
  ·simp at h
  ·rename_i n hn
   split at h
   ·simp at h
   ·rename_i b hf
    split at h
    ·simp at h
    ·rename_i m1 ys h1
     split at h
     ·rename_i m2 zs h2
      simp at h
      obtain ⟨rfl, rfl⟩ := h
      intro hw hj
      obtain ⟨a1, b1, ρ1, x1, w1, r1⟩ := matchB_sound hB h1 ρ hf hw hj
      obtain ⟨a2, b2, ρ2, x2, w2, r2⟩ := matchH_sound h2 ρ1 w1 b1
      refine ⟨a1.trans a2, b2, ρ2, x1.trans x2, w2, fun mF ρF hm hx hD => ?_⟩
      obtain ⟨l1, k1, f1⟩ := r1 mF ρF (a2.trans hm) (x2.trans hx) hD
      obtain ⟨l2, k2, f2⟩ := r2 mF ρF hm hx hD
      refine ⟨by simp [kindsH, l1, l2], by rw [denL_append]; exact k1.append k2, fun mk j hfit => ?_⟩
      rw [denL_append] at hfit
      obtain ⟨g1, g2⟩ := hfit.append (by rw [denL_length, l1])
      exact ⟨⟨n, b, ((a1.trans a2).trans hm).θ _ _ hn, ((a1.trans a2).trans hm).H _ _ hf, f1 mk j g1⟩, f2 mk _ g2⟩
     ·simp at h
omit hB in
theorem HMeans.find {ρF : Rho} {mF : MSt} {mk : Nat → SK → SE} {k : Nat} {blk : Blk} : ∀ {ps : List (Nat × PB)} {j : Nat}, HMeans ρF w mF mk j ps → find (instH (fun n => n) mk j ps) k = some blk → ∃ n b p j', lookN mF.θ k = some n ∧ Go.Proofs.YtdioaiepkhepaaaGreatDoor.find mF.H n = some b ∧ BMeans ρF w mF p n b mk j' ∧ blk = p.inst (fun n => n) mk j'
 | [], _, _, h => by simp [instH, Go.Proofs.YtdioaiepkhepaaaGreatDoor.find] at h
 | p :: ps, j, hm, h => by
  simp only [instH] at h
  rcases find_cons h with ⟨rfl, rfl⟩ | ⟨_, h2⟩
  ·obtain ⟨⟨n, b, h1, h2, h3⟩, _⟩ := hm
   exact ⟨n, b, p.2, j, h1, h2, h3, rfl⟩
  ·exact HMeans.find hm.2 h2
theorem matchSh_full {ρ : Rho} {s : St} {a : Act} (hs : StRel B w0 ρ s a w) {sh : Shp} {np : Nat} {m : MSt} {xs : List SE} (h : matchSh s sh np = some (m, xs)) :
 ∃ ρF, Ext ρ ρF ∧ WRel B w0 ρF m.H m.nx w ∧ InjN m.θ ∧ (∀ k n, lookN m.θ k = some n → k < np) ∧ (∀ a v, ρF.m a = some v → (shp m ρF w).m a = some v) ∧
  KindsL sh.kinds (denL xs) ∧ ∀ mk j, Fits mk j sh.kinds (denL xs) → StRel B w0 (shp m ρF w) (sh.inst (fun n => n) mk j np) a w ∧ ∀ k blk, Go.Proofs.YtdioaiepkhepaaaGreatDoor.find (sh.inst (fun n => n) mk j np).H k = some blk → ∃ n b, lookN m.θ k = some n ∧ Go.Proofs.YtdioaiepkhepaaaGreatDoor.find m.H n = some b ∧ (blk.arr = none ↔ b.arr = none) := by
 unfold matchSh at h
 split at h
 ·rename_i m1 ys h1
  split at h
  ·rename_i m2 zs h2
   split at h
   ·rename_i hc
    simp at h
    obtain ⟨rfl, rfl⟩ := h
    simp only [Bool.and_eq_true] at hc
    have hw0 : WRel B w0 ρ s.H s.nx w := hs.toWRel
    obtain ⟨a1, b1, ρ1, x1, w1, r1⟩ := matchVs_sound (B := B) (w0 := w0) (w := w) hB h1 ρ a.tmps.toList hw0 (fun _ _ _ h => by simp [lookN] at h)
    obtain ⟨a2, b2, ρ2, x2, w2, r2⟩ := matchH_sound hB h2 ρ1 w1 b1
    have D : Done B w0 m2 ρ2 w := ⟨w2, fun n hn k hk => ?_, b2⟩
    ·have hlt : ∀ k n, lookN m2.θ k = some n → k < np := fun k n hk => by
      have := List.all_eq_true.1 hc.2 _ (lookN_mem hk)
      exact Nat.le_of_ble_eq_true this
     obtain ⟨l1, k1⟩ := r1 m2 ρ2 a2 x2 D
     obtain ⟨l2, k2, f2⟩ := r2 m2 ρ2 (Mono.refl _) (Ext.refl _) D
     obtain ⟨k3, k4⟩ := k1 (VsRel.mono (x1.trans x2) hs.tmps)
     refine ⟨ρ2, x1.trans x2, w2, b2, hlt, fun a v hv => D.read hv, by rw [denL_append]; exact k3.append k2, fun mk j hf => ?_⟩
     rw [denL_append] at hf
     obtain ⟨g1, g2⟩ := hf.append (by rw [denL_length, l1])
     have hT := k4 mk j g1
     have hM := f2 mk _ g2
     refine ⟨⟨⟨⟨fun k x hk => ?_, fun k k' x hk hk' => ?_, fun k blk x hf hk => ?_⟩, ⟨fun a v hv => ?_, fun k blk x hf hk a ha => ?_, fun k blk κs c A hf hb hA => ?_, fun k blk A g hf hb hA hg => ?_, fun k blk hf => ?_, fun k k' blk blk' A A' g hf hf' hb hb' hA hA' hg hg' => ?_⟩, w2.below, fun k hk => ?_, fun k hk => ?_, fun k blk hf => ?_⟩, hT, hs.defers⟩, fun k blk hfk => ?_⟩
     ·obtain ⟨n, q1, q2⟩ := shp_bx hk
      exact w2.mem.lt n x q2
     ·obtain ⟨n, q1, q2⟩ := shp_bx hk
      obtain ⟨n', q1', q2'⟩ := shp_bx hk'
      have := w2.mem.inj n n' x q2 q2'
      subst this
      exact b2 k k' n q1 q1'
     ·obtain ⟨n, b, p, j', q1, q2, ⟨e1, e2, e3⟩, rfl⟩ := hM.find hf
      obtain ⟨n', q1', q2'⟩ := shp_bx hk
      rw [q1] at q1'
      cases q1'
      obtain ⟨u1, vs, u2, u3⟩ := w2.mem.blk n b x q2 q2'
      rcases e3 with ⟨e4, e5, y, vs', e6, e7, e8⟩ | ⟨κs, c, e4, e5, e6, _⟩
      ·rw [q2'] at e6
       cases e6
       refine ⟨fun ho => u1 (e2 (by simpa [PB.inst, e4] using ho)), vs', ?_, ?_⟩
       ·rw [e1] at e7
        simpa [PB.inst, e4] using e7
       ·simpa [PB.inst, e4] using e8
      ·refine ⟨fun ho => u1 (e2 (by simpa [PB.inst, e4] using ho)), vs, ?_, ?_⟩
       ·rw [e1] at u2
        simpa [PB.inst, e4] using u2
       ·rw [e6] at u3
        have : vs = [] := by
         cases vs with
         | nil => rfl
         | cons _ _ => exact u3.elim
        subst this
        simp [PB.inst, e4, CsRel]
     ·simp only [shp] at hv
      split at hv
      ·cases hv
      ·exact hv
     ·obtain ⟨n, b, p, j', q1, q2, _, _⟩ := hM.find hf
      obtain ⟨n', q1', q2'⟩ := shp_bx hk
      rw [q1] at q1'
      cases q1'
      simp only [shp]
      rw [if_pos ⟨k, n, b, q1, q2, .inl (by rw [ha]; exact q2')⟩]
     ·obtain ⟨n, b, p, j', q1, q2, ⟨e1, e2, e3⟩, rfl⟩ := hM.find hf
      obtain ⟨n', q1', q2'⟩ := shp_ax hA
      rw [q1] at q1'
      cases q1'
      rcases e3 with ⟨e4, _⟩ | ⟨κs', c', e4, e5, e6, e7, e8⟩
      ·simp [PB.inst, e4] at hb
      ·simp only [PB.inst, e4, Option.some.injEq, Prod.mk.injEq] at hb ⊢
       obtain ⟨rfl, rfl⟩ := hb
       obtain ⟨es, us, t1, t2, t3, t4⟩ := w2.ext.arr n b κs' c' A q2 e5 q2'
       rw [e1] at t4
       exact ⟨es, us, e7, t2, by rw [e8]; exact t3, t4⟩
     ·obtain ⟨n, b, p, j', q1, q2, ⟨e1, e2, e3⟩, rfl⟩ := hM.find hf
      obtain ⟨n', q1', q2'⟩ := shp_ax hA
      rw [q1] at q1'
      cases q1'
      rcases e3 with ⟨e4, _⟩ | ⟨κs', c', e4, e5, e6, _⟩
      ·simp [PB.inst, e4] at hb
      ·obtain ⟨u1, u2, u3⟩ := w2.ext.offa n b A g q2 (by rw [e5]; simp) q2' hg
       refine ⟨fun ho => u1 (e2 (by simpa [PB.inst, e4] using ho)), fun a ha => ?_, fun k' y hk' => ?_⟩
       ·simp only [shp]
        rw [if_pos ⟨k, n, b, q1, q2, .inr ⟨by rw [e5]; simp, A, q2', by rw [ha]; exact hg⟩⟩]
       ·obtain ⟨n', _, hy⟩ := shp_bx hk'
        exact u3 n' y hy
     ·obtain ⟨n, b, p, j', q1, q2, ⟨e1, e2, e3⟩, rfl⟩ := hM.find hf
      rcases e3 with ⟨e4, e5, y, vs', e6, e7, e8⟩ | ⟨κs, c, e4, e5, e6, _⟩
      ·refine ⟨fun hb => by simp [PB.inst, e4] at hb, fun _ => ⟨y, by rw [shp_b q1]; exact e6⟩⟩
      ·refine ⟨fun _ => ?_, fun hb => by simp [PB.inst, e4] at hb⟩
       rw [shp_a q1]
       exact (w2.ext.has n b q2).1 (by rw [e5]; simp)
     ·obtain ⟨n, b, p, j', q1, q2, ⟨e1, e2, e3⟩, rfl⟩ := hM.find hf
      obtain ⟨n', b', p', j'', q1', q2', ⟨e1', e2', e3'⟩, rfl⟩ := hM.find hf'
      obtain ⟨_, z1, z2⟩ := shp_ax hA
      rw [q1] at z1
      cases z1
      obtain ⟨_, z1', z2'⟩ := shp_ax hA'
      rw [q1'] at z1'
      cases z1'
      have hb1 : b.arr ≠ none := by
       rcases e3 with ⟨e4, _⟩ | ⟨κs, c, e4, e5, _⟩
       ·simp [PB.inst, e4] at hb
       ·rw [e5]; simp
      have hb2 : b'.arr ≠ none := by
       rcases e3' with ⟨e4, _⟩ | ⟨κs, c, e4, e5, _⟩
       ·simp [PB.inst, e4] at hb'
       ·rw [e5]; simp
      have := w2.ext.inja n n' b b' A A' g q2 q2' hb1 hb2 z2 z2' hg hg'
      subst this
      exact b2 k k' n q1 q1'
     ·cases hq : (shp m2 ρ2 w) k with
      | none => rfl
      | some x => obtain ⟨n, q1, _⟩ := shp_bx hq; have := hlt k n q1; simp [Shp.inst] at hk; omega
     ·cases hq : (shp m2 ρ2 w).a k with
      | none => rfl
      | some x => obtain ⟨n, q1, _⟩ := shp_ax hq; have := hlt k n q1; simp [Shp.inst] at hk; omega
     ·obtain ⟨n, b, p, j', q1, _⟩ := hM.find hf
      exact hlt k n q1
     ·obtain ⟨n, b, p, j', q1, q2, ⟨e1, e2, e3⟩, rfl⟩ := hM.find hfk
      refine ⟨n, b, q1, q2, ?_⟩
      rcases e3 with ⟨e4, e5, _⟩ | ⟨κs, c, e4, e5, _⟩
      ·simp [PB.inst, e4, e5]
      ·simp [PB.inst, e4, e5]
    ·have h1 := List.all_eq_true.1 hc.1 n hn
     simp only [Bool.not_eq_true', List.any_eq_false] at h1
     exact h1 (k, n) (lookN_mem hk) (Nat.beq_refl n)
   ·simp at h
  ·simp at h
 ·simp at h
theorem matchSh_sound {ρ : Rho} {s : St} {a : Act} (hs : StRel B w0 ρ s a w) {sh : Shp} {np : Nat} {m : MSt} {xs : List SE} (h : matchSh s sh np = some (m, xs)) :
 ∃ ρF, Ext ρ ρF ∧ WRel B w0 ρF m.H m.nx w ∧ InjN m.θ ∧ (∀ k n, lookN m.θ k = some n → k < np) ∧ (∀ a v, ρF.m a = some v → (shp m ρF w).m a = some v) ∧
  KindsL sh.kinds (denL xs) ∧ ∀ mk j, Fits mk j sh.kinds (denL xs) → StRel B w0 (shp m ρF w) (sh.inst (fun n => n) mk j np) a w := by
 obtain ⟨ρF, h1, h2, h3, h4, h5, h6, h7⟩ := matchSh_full hB hs h
 exact ⟨ρF, h1, h2, h3, h4, h5, h6, fun mk j hf => (h7 mk j hf).1⟩
end
end Go.Proofs.YtdioaiepkhepaaaGreatDoor
namespace Go.Proofs.YtdioaiepkhepaaaGreatDoor
open Go.RowKit
theorem findL_spec : ∀ {l : List LoopC} {f : FuncId} {k : Nat} {c : LoopC}, findL l f k = some c → c ∈ l ∧ c.f = f ∧ c.key = k
 | [], _, _, _, h => by simp [findL] at h
 | d :: l, f, k, c, h => by
  simp only [findL] at h
  split at h
  ·rename_i hb
   simp only [Bool.and_eq_true] at hb
   simp at h
   subst h
   exact ⟨by simp, beq_len hb.1, beq_len hb.2⟩
  ·obtain ⟨h1, h2⟩ := findL_spec h
   exact ⟨List.mem_cons_of_mem _ h1, h2⟩
theorem find_filter (q : Nat → Bool) : ∀ (H : List (Nat × Blk)) (n : Nat), find (H.filter fun p => q p.1) n = if q n = true then find H n else none
 | [], n => by simp [find]
 | (k, x) :: H, n => by
  have ih := find_filter q H n
  by_cases hk : Nat.beq k n = true
  ·have e := beq_len hk
   subst e
   by_cases hq : q k = true
   ·rw [List.filter_cons_of_pos (by simpa using hq)]
    simp only [find, hk, if_true, hq]
   ·rw [List.filter_cons_of_neg (by simpa using hq), ih]
    simp [hq]
  ·have hf : find ((k, x) :: H) n = find H n := by
    simp only [find]
    rw [if_neg hk]
   by_cases hq : q k = true
   ·rw [List.filter_cons_of_pos (by simpa using hq)]
    have : find ((k, x) :: H.filter fun p => q p.1) n = find (H.filter fun p => q p.1) n := by
     simp only [find]
     rw [if_neg hk]
    rw [this, ih, hf]
   ·rw [List.filter_cons_of_neg (by simpa using hq), ih, hf]
theorem find_append : ∀ (A B : List (Nat × Blk)) (n : Nat), find (A ++ B) n = match find A n with | some b => some b | none => find B n
 | [], B, n => rfl
 | (k, x) :: A, B, n => by
  simp only [List.cons_append, find]
  split
  ·rfl
  ·exact find_append A B n
def BodyTrue (P : Program) (I : World → Prop) (c : LoopC) : Prop :=
 ∀ xs, KindsL c.head.kinds xs → c.pre xs = true → ∀ (B : Foot) (w0 : World) (ρ : Rho) (w : World) (args : List Value), B.base ≤ w0.heap.size → (∀ w, BelowF B w0 w → I w) → WRel B w0 ρ (headS c xs).H c.np w → VsRel ρ (headS c xs).T args →
  CallOK P c.f args.toArray w fun v w' => ∃ (i : Nat) (o : Xt × Shp × Nat) (ys : List Value) (ρ' : Rho), c.outs[i]? = some o ∧ c.F xs = .int .i64 (i : Nat) :: ys ∧ KindsL o.2.1.kinds ys ∧ (∀ k x, keptH c.head.H k = true → ρ' k = some x → ρ k = some x) ∧
   ∀ mk j, Fits mk j o.2.1.kinds ys → (∃ us, VsRel ρ' (instVs (fun n => n) mk j o.2.1.T) (v :: us)) ∧ WRel B w0 ρ' (instH (fun n => n) mk (j + (kindsVs o.2.1.T).length) o.2.1.H) o.2.2 w' ∧
    ∀ k blk A g, find (instH (fun n => n) mk (j + (kindsVs o.2.1.T).length) o.2.1.H) k = some blk → blk.arr ≠ none → ρ'.a k = some A → A.g = some g → ∀ m y, ρ m = some y → y ≠ g
structure MOK (P : Program) (I : World → Prop) (M : Env) : Prop where
 sums : ∀ c ∈ M.cs, CSumOK P I c
 bodies : ∀ c ∈ M.ls, c.key = 99999 → BodyTrue P I c
theorem flat_chunk {κs : List SK} : ∀ {n : Nat} {vs : List Value}, KindsL (repK n κs) vs → Flat κs vs (chunkV κs.length n vs)
 | 0, vs, h => by
  simp only [repK, KindsL] at h
  simpa [chunkV, Flat] using h
 | n + 1, vs, h => by
  simp only [repK] at h
  obtain ⟨h1, h2⟩ := h.split
  simp only [chunkV, Flat]
  exact ⟨vs.take κs.length, vs.drop κs.length, (List.take_append_drop _ _).symm, rfl, h1, flat_chunk h2⟩
theorem repK_pl {κs : List SK} (hp : κs.all isPl = true) : ∀ n, (repK n κs).all isPl = true
 | 0 => rfl
 | n + 1 => by simp only [repK, List.all_append, hp, repK_pl hp n, Bool.and_self]
theorem repK_length {κs : List SK} : ∀ n, (repK n κs).length = n * κs.length
 | 0 => by simp [repK]
 | n + 1 => by simp only [repK, List.length_append, repK_length n, Nat.add_mul, Nat.one_mul]; omega
theorem lit_sound {P : Program} {B : Foot} {ρ : Rho} {H : List (Nat × Blk)} {w : World} {s : Sem Next} {cs : List SC} {xs : List SE} {t : TypeId} {len : Nat} {κs : List SK} {vs : List Value} (hp : κs.all isPl = true) (h4 : len ≤ 4096) (hx : flat1s (repK len κs) cs = some xs)
 (hr : s.run P w = .ok (.value (.slice (some ⟨w.heap.size, 0, none⟩) len len)) (w.alloc (.cells vs.toArray t))) (hv : CsRel ρ cs vs) : Eff P B ρ H w s (.arr none (.app (1010000 + len) (lsF κs.length len) 0 (.l κs) xs) κs t) := by
 have hrd := flat1s_sound (m := ρ.m) (fun _ _ h => h) hx hv
 have hpl := RdKs.plain (repK_pl hp len) hrd
 have hk := hrd.kinds
 rw [← hpl] at hk
 have hl : vs.length = len * κs.length := by rw [hk.len, repK_length]
 refine ⟨⟨some w.heap.size, len, len⟩, w.alloc (.cells vs.toArray t), hr, ⟨chunkV κs.length len (denL xs), vs, rfl, hp, ?_, chunkV_length _ _ _, (fun e => by cases e), Nat.le_refl _, (by simp only [maxLen]; omega), by rw [← hpl]; exact flat_chunk hk, ?_⟩, World.grownBy_alloc w _ none, (fun g hg => by simp at hg; subst hg; exact .inl (Nat.le_refl _)), fun n h => by cases h⟩
 ·simp only [SE.den, lsF, norm]
  simp
 ·have := World.ownsRow_lit (base := 0) (e := t) (size := κs.length) w vs.toArray len (Nat.zero_le _) (by simp only [maxLen]; omega) (by simpa using hl)
  simpa using this
def footOf (ρ : Rho) (H : List (Nat × Blk)) (w : World) : Foot := ⟨w.heap.size, fun x => ∃ n b, find H n = some b ∧ b.own = true ∧ (ρ n = some x ∨ (b.arr ≠ none ∧ ∃ A, ρ.a n = some A ∧ A.g = some x))⟩
section
variable {B : Foot} {w0 : World} {ρ : Rho} {H : List (Nat × Blk)} {nx : Nat} {w : World}
theorem WRel.foot (h : WRel B w0 ρ H nx w) : WRel (footOf ρ H w) w ρ H nx w :=
 ⟨⟨h.mem.lt, h.mem.inj, fun n b x hf hx => ⟨fun ho => .inr ⟨n, b, hf, ho, .inl hx⟩, (h.mem.blk n b x hf hx).2⟩⟩,
  ⟨h.ext.mem, h.ext.off, h.ext.arr, fun n b A g hf hb hA hg => ⟨fun ho => .inr ⟨n, b, hf, ho, .inr ⟨hb, A, hA, hg⟩⟩, (h.ext.offa n b A g hf hb hA hg).2⟩, h.ext.has, h.ext.inja⟩,
  .refl _ _, h.fresh, h.fra, h.names⟩
theorem WRel.foot_has (h : WRel B w0 ρ H nx w) (hB : B.base ≤ w0.heap.size) {x : Nat} (hx : (footOf ρ H w).has x) : B.has x := by
 rcases hx with hx | ⟨n, b, hf, ho, hx | ⟨hb, A, hA, hg⟩⟩
 ·have := h.below.size
  exact .inl (by simp only [footOf] at hx; omega)
 ·exact (h.mem.blk n b x hf hx).1 ho
 ·exact (h.ext.offa n b A x hf hb hA hg).1 ho
theorem WRel.foot_below (h : WRel B w0 ρ H nx w) (hB : B.base ≤ w0.heap.size) {w' : World} (hb : BelowF (footOf ρ H w) w w') : BelowF B w w' :=
 ⟨hb.os, hb.tape, hb.output, hb.size, fun k hk => hb.block k fun hx => hk (h.foot_has hB hx)⟩
theorem WRel.unfoot {ρ' : Rho} {H' : List (Nat × Blk)} {nx' : Nat} {w' : World} (h : WRel B w0 ρ H nx w) (hB : B.base ≤ w0.heap.size) (k : WRel (footOf ρ H w) w ρ' H' nx' w') : WRel B w0 ρ' H' nx' w' :=
 ⟨⟨k.mem.lt, k.mem.inj, fun n b x hf hx => ⟨fun ho => h.foot_has hB ((k.mem.blk n b x hf hx).1 ho), (k.mem.blk n b x hf hx).2⟩⟩,
  ⟨k.ext.mem, k.ext.off, k.ext.arr, fun n b A g hf hb hA hg => ⟨fun ho => h.foot_has hB ((k.ext.offa n b A g hf hb hA hg).1 ho), (k.ext.offa n b A g hf hb hA hg).2⟩, k.ext.has, k.ext.inja⟩,
  h.below.trans (h.foot_below hB k.below), k.fresh, k.fra, k.names⟩
end
theorem find_inst : ∀ {ps : List (Nat × PB)} {θ : Nat → Nat} {mk : Nat → SK → SE} {j n : Nat} {b : Blk}, find (instH θ mk j ps) n = some b → ∃ k p j', (k, p) ∈ ps ∧ n = θ k ∧ b = p.inst θ mk j' ∧ find (instH (fun n => n) mk j ps) k = some (p.inst (fun n => n) mk j')
 | [], _, _, _, _, _, h => by simp [instH, find] at h
 | (k0, p0) :: ps, θ, mk, j, n, b, h => by
  simp only [instH] at h
  rcases find_cons h with ⟨rfl, rfl⟩ | ⟨hne, h2⟩
  ·exact ⟨k0, p0, j, by simp, rfl, rfl, by simp only [instH, find]; rw [if_pos (Nat.beq_refl _)]⟩
  ·obtain ⟨k, p, j', q1, q2, q3, q4⟩ := find_inst h2
   refine ⟨k, p, j', List.mem_cons_of_mem _ q1, q2, q3, ?_⟩
   simp only [instH, find]
   rw [if_neg (fun e => hne (by rw [q2, beq_len e]))]
   exact q4
theorem findPB_inst {mk : Nat → SK → SE} : ∀ {ps : List (Nat × PB)} {j k : Nat} {p : PB}, findPB ps k = some p → ∃ j', find (instH (fun n => n) mk j ps) k = some (p.inst (fun n => n) mk j')
 | [], _, _, _, h => by simp [findPB] at h
 | (k0, p0) :: ps, j, k, p, h => by
  simp only [findPB] at h
  simp only [instH, find]
  split at h
  ·rename_i e
   simp at h
   subst h
   rw [if_pos e]
   exact ⟨j, rfl⟩
  ·rename_i e
   rw [if_neg e]
   exact findPB_inst h
section
variable {ρ ρ2 : Rho} {θ : Nat → Nat} {Hp : List (Nat × PB)} (hb : ∀ k x, keptH Hp k = true → ρ k = some x → ρ2 (θ k) = some x) (ha : ∀ k A, keptH Hp k = false → ρ.a k = some A → ρ2.a (θ k) = some A)
include hb ha
theorem outC_ren {p : PC} {mk : Nat → SK → SE} {j : Nat} {v : Value} (ho : outC Hp p = true) (h : CRel ρ (p.inst (fun n => n) mk j) v) : CRel ρ2 (p.inst θ mk j) v := by
 cases p with
 | h κ => exact cellK_pl ho h
 | p b off =>
  obtain ⟨n, q1, q2⟩ := h
  exact ⟨n, hb b n ho q1, q2⟩
 | fn f κss => simp [outC] at ho
 | ar n κs t =>
  obtain ⟨A, L, q1, q2⟩ := h
  exact ⟨A, L, ha n A (by simpa [outC] using ho) q1, q2⟩
 | np => exact h
theorem outCs_ren {mk : Nat → SK → SE} : ∀ {ps : List PC} {j : Nat} {vs : List Value}, ps.all (outC Hp) = true → CsRel ρ (instCs (fun n => n) mk j ps) vs → CsRel ρ2 (instCs θ mk j ps) vs
 | [], _, [], _, _ => trivial
 | [], _, _ :: _, _, h => h.elim
 | _ :: _, _, [], _, h => h.elim
 | p :: ps, j, v :: vs, ho, h => by
  simp only [List.all_cons, Bool.and_eq_true] at ho
  exact ⟨outC_ren hb ha ho.1 h.1, outCs_ren ho.2 h.2⟩
theorem outP_ren {p : PP} {mk : Nat → SK → SE} {j : Nat} {v : Value} (ho : outP Hp p = true) (h : PRel ρ (p.inst (fun n => n) mk j) v) : PRel ρ2 (p.inst θ mk j) v := by
 cases p with
 | c x => exact outC_ren hb ha ho h
 | agg xs =>
  obtain ⟨vs, e, q⟩ := h
  exact ⟨vs, e, outCs_ren hb ha ho q⟩
theorem outPs_ren {mk : Nat → SK → SE} : ∀ {ps : List PP} {j : Nat} {vs : List Value}, ps.all (outP Hp) = true → PsRel ρ (instPs (fun n => n) mk j ps) vs → PsRel ρ2 (instPs θ mk j ps) vs
 | [], _, [], _, _ => trivial
 | [], _, _ :: _, _, h => h.elim
 | _ :: _, _, [], _, h => h.elim
 | p :: ps, j, v :: vs, ho, h => by
  simp only [List.all_cons, Bool.and_eq_true] at ho
  exact ⟨outP_ren hb ha ho.1 h.1, outPs_ren ho.2 h.2⟩
theorem outV_ren {p : ShV} {mk : Nat → SK → SE} {j : Nat} {v : Value} (ho : outV Hp p = true) (h : VRel ρ (p.inst (fun n => n) mk j) v) : VRel ρ2 (p.inst θ mk j) v := by
 cases p with
 | p x => exact outP_ren hb ha ho h
 | tup xs =>
  obtain ⟨vs, e, q⟩ := h
  exact ⟨vs, e, outPs_ren hb ha ho q⟩
 | any => trivial
end
theorem exitsB_den {c : LoopC} {m : MSt} {xs : List SE} {i : Nat} {ys : List Value} (hF : c.F (denL xs) = .int .i64 i :: ys) {o : Xt × Shp × Nat} {r : SV × List (Nat × Blk) × Nat} : ∀ {l : List (Xt × Shp × Nat)} {k : Nat}, k ≤ i → l[i - k]? = some o → (exitsB c m xs k l).den = some r → r = leaveB c m xs o.2
 | [], _, _, h, _ => by simp at h
 | [p], k, hk, ho, h => by
  simp only [exitsB, Tree.den, Option.some.injEq] at h
  have : i - k = 0 := by
   have := (List.getElem?_eq_some_iff.1 ho).1
   simp at this
   omega
  rw [this] at ho
  simp at ho
  subst ho
  exact h.symm
 | p :: q :: l, k, hk, ho, h => by
  simp only [exitsB, Tree.den, SE.den, isX, hF] at h
  change (bif tru (Value.bool (decide ((i : Int) = (k : Int)))) then _ else _) = _ at h
  by_cases e : i = k
  ·subst e
   simp [tru] at h ho
   subst ho
   exact h.symm
  ·have e' : ¬ ((i : Int) = (k : Int)) := by omega
   simp only [e', decide_false, tru, cond_false] at h
   refine exitsB_den hF (k := k + 1) (by omega) ?_ h
   rw [show i - k = (i - (k + 1)) + 1 by omega] at ho
   simpa using ho
section
variable {P : Program} {I : World → Prop} {B : Foot} {w0 : World} (hB : B.base ≤ w0.heap.size) (hI : ∀ w, BelowF B w0 w → I w)
include hB hI
theorem callB_sound {c : LoopC} (hc : BodyTrue P I c) {H : List (Nat × Blk)} {nx : Nat} {args : List SV} {t : Tree (SV × List (Nat × Blk) × Nat)} (h : callB c H nx args = some t) {sv : SV} {H' : List (Nat × Blk)} {nx' : Nat} (hd : t.den = some (sv, H', nx'))
 {ρ : Rho} {vs : List Value} {w : World} (hv : VsRel ρ args vs) (hW : WRel B w0 ρ H nx w) : CallOK P c.f vs.toArray w fun v w' => ∃ ρ', Ext ρ ρ' ∧ VRel ρ' sv v ∧ WRel B w0 ρ' H' nx' w' := by
 unfold callB at h
 split at h
 ·rename_i m xs hm
  split at h
  ·rename_i hok
   simp at h
   subst h
   obtain ⟨hp, hd⟩ := guard_den hd
   obtain ⟨ρF, hx, hWF, hinj, hlt, hrd, hk, hst⟩ := matchSh_full hB (s := { T := args, H, nx }) (a := ⟨vs.toArray, []⟩) (ρ := ρ) (w := w) ⟨hW, hv, rfl⟩ hm
   obtain ⟨hs0, NB⟩ := hst (valMk (denL xs)) 0 (by have := fits_val (j := 0) (ds := denL xs) (κs := c.head.kinds) (by simpa using hk); simpa using this)
   have hWs : WRel B w0 (shp m ρF w) (headS c (denL xs)).H c.np w := hs0.toWRel
   refine (hc (denL xs) hk hp (footOf (shp m ρF w) (headS c (denL xs)).H w) w (shp m ρF w) w vs (Nat.le_refl _) (fun w1 hb => hI w1 (hWs.below.trans (hWs.foot_below hB hb))) hWs.foot hs0.tmps).mono fun v w' ⟨i, o, ys, ρ', ho, hF, hky, hkeep, hex⟩ => ?_
   have e := exitsB_den (c := c) (m := m) (xs := xs) hF (k := 0) (Nat.zero_le _) (by simpa using ho) hd
   have hoo : outOK c.head.H o.2.1 = true := List.all_eq_true.1 hok o (List.mem_of_getElem? ho)
   simp only [outOK, Bool.and_eq_true] at hoo
   obtain ⟨hT2, hH2⟩ := hoo
   have hfit := fits_app (f := 1000000000 + 100000 * c.f + c.key) (F := c.F) (xs := xs) (κs := o.2.1.kinds) (j := 1) (by rw [hF]; exact hky)
   rw [hF] at hfit
   obtain ⟨⟨us0, hT⟩, hWo, hnew⟩ := hex (fun j κ => .app (1000000000 + 100000 * c.f + c.key) c.F j κ xs) 1 hfit
   simp only [leaveB, Prod.mk.injEq] at e
   obtain ⟨rfl, rfl, rfl⟩ := e
   generalize hmk : (fun (j : Nat) (κ : SK) => SE.app (1000000000 + 100000 * c.f + c.key) c.F j κ xs) = mk at hT hWo hnew
   have gsm : ∀ a u, ρF.m a = some u → ¬ Gs m ρF a.block := fun a u hu ⟨k, n, b, _, hf, hg⟩ => by
    rcases hg with hg | ⟨hb, A, hA, hg⟩
    ·rw [hWF.ext.off n b a.block hf hg a rfl] at hu; cases hu
    ·rw [(hWF.ext.offa n b A a.block hf hb hA hg).2.1 a rfl] at hu; cases hu
   have foot : ∀ y, (footOf (shp m ρF w) (headS c (denL xs)).H w).has y → w.heap.size ≤ y ∨ ∃ k n b b0, lookN m.θ k = some n ∧ find m.H n = some b ∧ find (headS c (denL xs)).H k = some b0 ∧ ((shp m ρF w k = some y ∧ ρF n = some y) ∨ (b.arr ≠ none ∧ ∃ A, ρF.a n = some A ∧ A.g = some y)) := by
    intro y hy
    rcases hy with hy | ⟨k, b0, hf0, _, hy⟩
    ·exact .inl hy
    ·obtain ⟨n, b, q1, q2, q3⟩ := NB k b0 hf0
     refine .inr ⟨k, n, b, b0, q1, q2, hf0, ?_⟩
     rcases hy with hy | ⟨hb, A, hA, hg⟩
     ·exact .inl ⟨hy, by rw [shp_b q1] at hy; exact hy⟩
     ·exact .inr ⟨fun e => hb (q3.2 e), A, by rw [shp_a q1] at hA; exact hA, hg⟩
   have footG : ∀ y, (footOf (shp m ρF w) (headS c (denL xs)).H w).has y → w.heap.size ≤ y ∨ Gs m ρF y := fun y hy => by
    rcases foot y hy with q | ⟨k, n, b, b0, q1, q2, _, q⟩
    ·exact .inl q
    ·exact .inr ⟨k, n, b, q1, q2, q.imp (·.2) id⟩
   have same : ∀ y, y < w.heap.size → ¬ Gs m ρF y → w'.heap[y]? = w.heap[y]? := fun y hy hg => hWo.below.block y fun hf => by
    rcases footG y hf with q | q
    ·omega
    ·exact hg q
   have restF : ∀ n b, find (restH m) n = some b → find m.H n = some b ∧ ∀ k, lookN m.θ k ≠ some n := fun n b hf => by
    have hf : find (m.H.filter fun p => (fun x => !(m.θ.any fun q => Nat.beq q.2 x)) p.1) n = some b := hf
    rw [find_filter (fun x => !(m.θ.any fun q => Nat.beq q.2 x))] at hf
    split at hf
    ·rename_i hq
     refine ⟨hf, fun k hk => ?_⟩
     simp only [Bool.not_eq_true', List.any_eq_false] at hq
     exact hq (k, n) (lookN_mem hk) (Nat.beq_refl n)
    ·cases hf
   have unB : ∀ n b x, find (restH m) n = some b → ρF n = some x → ¬ Gs m ρF x := fun n b x hf hx ⟨k, n', b', hk, hf', hg⟩ => by
    obtain ⟨_, q⟩ := restF n b hf
    rcases hg with hg | ⟨hb', A, hA, hg⟩
    ·exact q k (by rw [hWF.mem.inj n n' x hx hg]; exact hk)
    ·exact (hWF.ext.offa n' b' A x hf' hb' hA hg).2.2 n x hx rfl
   have unA : ∀ n b A g, find (restH m) n = some b → b.arr ≠ none → ρF.a n = some A → A.g = some g → ¬ Gs m ρF g := fun n b A g hf hb hA hg ⟨k, n', b', hk, hf', hq⟩ => by
    obtain ⟨hf, q⟩ := restF n b hf
    rcases hq with hq | ⟨hb', A', hA', hg'⟩
    ·exact (hWF.ext.offa n b A g hf hb hA hg).2.2 n' g hq rfl
    ·exact q k (by rw [hWF.ext.inja n n' b b' A A' g hf hf' hb hb' hA hA' hg hg']; exact hk)
   let ρ2 : Rho := { b := ρF.b, a := fun n => if n < m.nx then ρF.a n else ρ'.a (n - m.nx), m := ρF.m }
   have a2 : ∀ n, n < m.nx → ρ2.a n = ρF.a n := fun n hn => by simp only [ρ2, if_pos hn]
   have a3 : ∀ k, ρ2.a (m.nx + k) = ρ'.a k := fun k => by simp only [ρ2]; rw [if_neg (by omega), Nat.add_sub_cancel_left]
   have hx2 : Ext ρF ρ2 := by
    refine ⟨fun _ _ h => h, fun n A hA => ?_, rfl⟩
    rw [a2 n]
    ·exact hA
    ·rcases Nat.lt_or_ge n m.nx with q | q
     ·exact q
     ·rw [hWF.fra n q] at hA
      cases hA
   have kept : ∀ k x, keptH c.head.H k = true → ρ' k = some x → ∃ b0, find m.H (thetaB c m k) = some b0 ∧ b0.arr = none ∧ ρF (thetaB c m k) = some x := fun k x hk hx => by
    have q := hkeep k x hk hx
    obtain ⟨n, q1, q2⟩ := shp_bx q
    have : thetaB c m k = n := by simp [thetaB, hk, q1]
    rw [this]
    unfold keptH at hk
    split at hk
    ·rename_i pb hpb
     obtain ⟨j', hf⟩ := findPB_inst (mk := valMk (denL xs)) (j := 0 + (kindsVs c.head.T).length) hpb
     obtain ⟨n', b, r1, r2, r3⟩ := NB k _ hf
     rw [q1] at r1
     cases r1
     refine ⟨b, r2, r3.1 ?_, q2⟩
     cases he : pb.arr with
     | none => simp [PB.inst, he]
     | some _ => rw [he] at hk; simp at hk
    ·cases hk
   have hb2 : ∀ k x, keptH c.head.H k = true → ρ' k = some x → ρ2 (thetaB c m k) = some x := fun k x hk hx => by
    obtain ⟨_, _, _, q⟩ := kept k x hk hx
    exact q
   have th : ∀ k, keptH c.head.H k = false → thetaB c m k = m.nx + k := fun k hk => by simp [thetaB, hk]
   have ha2 : ∀ k A, keptH c.head.H k = false → ρ'.a k = some A → ρ2.a (thetaB c m k) = some A := fun k A hk hA => by rw [th k hk, a3]; exact hA
   have out : ∀ n b, find (instH (thetaB c m) mk (1 + (kindsVs o.2.1.T).length) o.2.1.H) n = some b → ∃ (k : Nat) (p : PB) (j' : Nat), n = thetaB c m k ∧ b = p.inst (thetaB c m) mk j' ∧ find (instH (fun n => n) mk (1 + (kindsVs o.2.1.T).length) o.2.1.H) k = some (p.inst (fun n => n) mk j') ∧
    p.own = true ∧ ((p.arr = none ∧ keptH c.head.H k = true ∧ p.cells.all (outC c.head.H) = true) ∨ ((∃ κs, p.arr = some κs) ∧ keptH c.head.H k = false)) := fun n b hf => by
    obtain ⟨k, p, j', q1, q2, q3, q4⟩ := find_inst hf
    have q5 := List.all_eq_true.1 hH2 (k, p) q1
    simp only [outPB, Bool.and_eq_true] at q5
    refine ⟨k, p, j', q2, q3, q4, q5.1, ?_⟩
    have q6 := q5.2
    split at q6
    ·rename_i he
     simp only [Bool.and_eq_true] at q6
     exact .inl ⟨he, q6.1, q6.2⟩
    ·rename_i κs he
     exact .inr ⟨⟨κs, he⟩, by simpa using q6⟩
   have both : ∀ n b, find (instH (thetaB c m) mk (1 + (kindsVs o.2.1.T).length) o.2.1.H ++ restH m) n = some b → find (instH (thetaB c m) mk (1 + (kindsVs o.2.1.T).length) o.2.1.H) n = some b ∨ find (restH m) n = some b := fun n b hf => by
    rw [find_append] at hf
    cases hq : find (instH (thetaB c m) mk (1 + (kindsVs o.2.1.T).length) o.2.1.H) n with
    | some b' => rw [hq] at hf; exact .inl hf
    | none => rw [hq] at hf; exact .inr hf
   have elemI : ∀ (p : PB) (θ : Nat → Nat) j, (p.inst θ mk j).elem = p.elem ∧ (p.inst θ mk j).own = p.own ∧ (p.inst θ mk j).arr = p.arr.map fun κs => (κs, mk j (.l κs)) := fun p θ j => by
    cases he : p.arr with
    | none => simp [PB.inst, he]
    | some κs => simp [PB.inst, he]
   have outA : ∀ n b, find (instH (thetaB c m) mk (1 + (kindsVs o.2.1.T).length) o.2.1.H) n = some b → b.arr ≠ none → ∃ k b', n = m.nx + k ∧ keptH c.head.H k = false ∧ find (instH (fun n => n) mk (1 + (kindsVs o.2.1.T).length) o.2.1.H) k = some b' ∧ b'.arr = b.arr ∧ b'.elem = b.elem ∧ b'.own = true := fun n b hf hb => by
    obtain ⟨k, p, j', q1, q2, q3, q4, q5⟩ := out n b hf
    rcases q5 with ⟨he, _⟩ | ⟨⟨κs, he⟩, hk⟩
    ·exfalso
     rw [q2] at hb
     exact hb (by rw [(elemI p _ _).2.2, he]; rfl)
    ·refine ⟨k, _, by rw [q1, th k hk], hk, q3, ?_, ?_, by rw [(elemI p _ _).2.1]; exact q4⟩
     ·rw [q2, (elemI p _ _).2.2, (elemI p _ _).2.2]
     ·rw [q2, (elemI p _ _).1, (elemI p _ _).1]
   have outBk : ∀ n b, find (instH (thetaB c m) mk (1 + (kindsVs o.2.1.T).length) o.2.1.H) n = some b → b.arr = none → ∃ (k : Nat) (p : PB) (j' x : Nat) (b0 : Blk), n = thetaB c m k ∧ b = p.inst (thetaB c m) mk j' ∧ find (instH (fun n => n) mk (1 + (kindsVs o.2.1.T).length) o.2.1.H) k = some (p.inst (fun n => n) mk j') ∧
    p.own = true ∧ p.arr = none ∧ p.cells.all (outC c.head.H) = true ∧ ρ' k = some x ∧ ρF n = some x ∧ find m.H n = some b0 ∧ b0.arr = none := fun n b hf hb => by
    obtain ⟨k, p, j', q1, q2, q3, q4, q5⟩ := out n b hf
    rcases q5 with ⟨he, hk, hcs⟩ | ⟨⟨κs, he⟩, _⟩
    ·obtain ⟨x, hx⟩ := (hWo.ext.has k _ q3).2 (by rw [(elemI p _ _).2.2, he]; rfl)
     obtain ⟨b0, r1, r2, r3⟩ := kept k x hk hx
     exact ⟨k, p, j', x, b0, q1, q2, q3, q4, he, hcs, hx, by rw [q1]; exact r3, by rw [q1]; exact r1, r2⟩
    ·exfalso
     rw [q2, (elemI p _ _).2.2, he] at hb
     cases hb
   have hsz : w.heap.size ≤ w'.heap.size := hWo.below.size
   refine ⟨ρ2, hx.trans hx2, ?_, ⟨⟨fun n x hn => ?_, fun n k x hn hk => hWF.mem.inj n k x hn hk, fun n b x hf hn => ?_⟩, ⟨fun a u hu => ?_, fun n b x hf hn a ha => ?_, fun n b κs cc A hf hb hA => ?_, fun n b A g hf hb hA hg => ?_, fun n b hf => ?_, fun n n' b b' A A' g hf hf' hb hb' hA hA' hg hg' => ?_⟩, hWs.below.trans (hWs.foot_below hB hWo.below), fun n hn => hWF.fresh n (by omega), fun n hn => ?_, fun n b hf => ?_⟩⟩
   ·
    cases hT0 : o.2.1.T with
    | nil => rw [hT0] at hT; exact hT.elim
    | cons p ps =>
     rw [hT0] at hT hT2
     simp only [List.all_cons, Bool.and_eq_true] at hT2
     simp only [instVs, valS]
     exact outV_ren hb2 ha2 hT2.1 hT.1
   ·have := hWF.mem.lt n x hn
    omega
   ·rcases both n b hf with q | q
    ·cases hb : b.arr with
     | none =>
      obtain ⟨k, p, j', x', b0, q1, q2, q3, q4, q5, q6, q7, q8, q9, q10⟩ := outBk n b q hb
      have : x = x' := by have : ρF n = some x := hn; rw [q8] at this; simpa using this.symm
      subst this
      obtain ⟨r1, us, r2, r3⟩ := hWo.mem.blk k _ x q3 q7
      refine ⟨fun _ => hWs.foot_has hB (r1 (by rw [(elemI p _ _).2.1]; exact q4)), us, ?_, ?_⟩
      ·rw [q2, (elemI p _ _).1]
       rw [(elemI p _ _).1] at r2
       exact r2
      ·subst q2
       have e1 : ∀ θ, (p.inst θ mk j').cells = instCs θ mk j' p.cells := fun θ => by simp [PB.inst, q5]
       rw [e1] at r3 ⊢
       exact outCs_ren hb2 ha2 q6 r3
     | some z =>
      exfalso
      obtain ⟨k, b', q1, _⟩ := outA n b q (by rw [hb]; simp)
      have : ρF n = some x := hn
      rw [hWF.fresh n (by omega)] at this
      cases this
    ·obtain ⟨q1, q2⟩ := restF n b q
     obtain ⟨r1, us, r2, r3⟩ := hWF.mem.blk n b x q1 hn
     exact ⟨r1, us, by rw [same x (hWF.mem.lt n x hn) (unB n b x q hn)]; exact r2, r3.mono hx2⟩
   ·have h1 := hWF.ext.mem a u hu
    rw [cell_heap (same _ (cellOf_lt h1) (gsm a u hu))]
    exact h1
   ·rcases both n b hf with q | q
    ·cases hb : b.arr with
     | none =>
      obtain ⟨k, p, j', x', b0, q1, q2, q3, q4, q5, q6, q7, q8, q9, q10⟩ := outBk n b q hb
      exact hWF.ext.off n b0 x q9 hn a ha
     | some z =>
      exfalso
      obtain ⟨k, b', q1, _⟩ := outA n b q (by rw [hb]; simp)
      have : ρF n = some x := hn
      rw [hWF.fresh n (by omega)] at this
      cases this
    ·exact hWF.ext.off n b x (restF n b q).1 hn a ha
   ·rcases both n b hf with q | q
    ·obtain ⟨k, b', q1, q2, q3, q4, q5, q6⟩ := outA n b q (by rw [hb]; simp)
     rw [q1, a3] at hA
     rw [← q5]
     exact hWo.ext.arr k b' κs cc A q3 (by rw [q4]; exact hb) hA
    ·obtain ⟨q1, q2⟩ := restF n b q
     rw [a2 n (hWF.names n b q1)] at hA
     have hA0 := hWF.ext.arr n b κs cc A q1 hb hA
     exact hA0.heap fun g hg => same g (hA0.lt hg) (unA n b A g q (by rw [hb]; simp) hA hg)
   ·rcases both n b hf with q | q
    ·obtain ⟨k, b', q1, q2, q3, q4, q5, q6⟩ := outA n b q hb
     rw [q1, a3] at hA
     obtain ⟨r1, r2, r3⟩ := hWo.ext.offa k b' A g q3 (by rw [q4]; exact hb) hA hg
     have hfo := r1 q6
     refine ⟨fun _ => hWs.foot_has hB hfo, fun a ha => ?_, fun m' y hy => ?_⟩
     ·show ρF.m a = none
      cases hu : ρF.m a with
      | none => rfl
      | some u =>
       rcases footG g hfo with s1 | s1
       ·have := cellOf_lt (hWF.ext.mem a u hu)
        omega
       ·exact absurd (by rw [ha]; exact s1) (gsm a u hu)
     ·have hy : ρF m' = some y := hy
      intro e
      subst e
      rcases foot y hfo with s1 | ⟨k', n', b1, b0, s1, s2, s3, s4⟩
      ·have := hWF.mem.lt m' y hy
       omega
      ·rcases s4 with ⟨s4, _⟩ | ⟨s4, A1, s5, s6⟩
       ·exact hnew k b' A y q3 (by rw [q4]; exact hb) hA hg k' y s4 rfl
       ·exact (hWF.ext.offa n' b1 A1 y s2 s4 s5 s6).2.2 m' y hy rfl
    ·obtain ⟨q1, q2⟩ := restF n b q
     rw [a2 n (hWF.names n b q1)] at hA
     exact hWF.ext.offa n b A g q1 hb hA hg
   ·rcases both n b hf with q | q
    ·refine ⟨fun hb => ?_, fun hb => ?_⟩
     ·obtain ⟨k, b', q1, q2, q3, q4, q5, q6⟩ := outA n b q hb
      obtain ⟨A, hA⟩ := (hWo.ext.has k b' q3).1 (by rw [q4]; exact hb)
      exact ⟨A, by rw [q1, a3]; exact hA⟩
     ·obtain ⟨k, p, j', x', b0, q1, q2, q3, q4, q5, q6, q7, q8, q9, q10⟩ := outBk n b q hb
      exact ⟨x', q8⟩
    ·obtain ⟨q1, q2⟩ := restF n b q
     refine ⟨fun hb => ?_, (hWF.ext.has n b q1).2⟩
     obtain ⟨A, hA⟩ := (hWF.ext.has n b q1).1 hb
     exact ⟨A, by rw [a2 n (hWF.names n b q1)]; exact hA⟩
   ·have mix : ∀ n b A n' b' A', find (instH (thetaB c m) mk (1 + (kindsVs o.2.1.T).length) o.2.1.H) n = some b → find (restH m) n' = some b' → b.arr ≠ none → b'.arr ≠ none → ρ2.a n = some A → ρ2.a n' = some A' → A.g = some g → A'.g = some g → False := by
     intro n b A n' b' A' q q' hb hb' hA hA' hg hg'
     obtain ⟨k, b1, q1, q2, q3, q4, q5, q6⟩ := outA n b q hb
     rw [q1, a3] at hA
     obtain ⟨r1, _⟩ := hWo.ext.offa k b1 A g q3 (by rw [q4]; exact hb) hA hg
     obtain ⟨t1, _⟩ := restF n' b' q'
     rw [a2 n' (hWF.names n' b' t1)] at hA'
     rcases footG g (r1 q6) with s1 | s1
     ·cases he : b'.arr with
      | none => exact hb' he
      | some z =>
       have := (hWF.ext.arr n' b' z.1 z.2 A' t1 he hA').lt hg'
       omega
     ·exact unA n' b' A' g q' hb' hA' hg' s1
    rcases both n b hf with q | q <;> rcases both n' b' hf' with q' | q'
    ·obtain ⟨k, b1, q1, q2, q3, q4, q5, q6⟩ := outA n b q hb
     obtain ⟨k', b1', q1', q2', q3', q4', q5', q6'⟩ := outA n' b' q' hb'
     rw [q1, a3] at hA
     rw [q1', a3] at hA'
     have := hWo.ext.inja k k' b1 b1' A A' g q3 q3' (by rw [q4]; exact hb) (by rw [q4']; exact hb') hA hA' hg hg'
     rw [q1, q1', this]
    ·exact (mix n b A n' b' A' q q' hb hb' hA hA' hg hg').elim
    ·exact (mix n' b' A' n b A q' q hb' hb hA' hA hg' hg).elim
    ·obtain ⟨t1, _⟩ := restF n b q
     obtain ⟨t1', _⟩ := restF n' b' q'
     rw [a2 n (hWF.names n b t1)] at hA
     rw [a2 n' (hWF.names n' b' t1')] at hA'
     exact hWF.ext.inja n n' b b' A A' g t1 t1' hb hb' hA hA' hg hg'
   ·have : n = m.nx + (n - m.nx) := by omega
    rw [this, a3]
    exact hWo.fra _ (by omega)
   ·rcases both n b hf with q | q
    ·cases hb : b.arr with
     | none =>
      obtain ⟨k, p, j', x', b0, q1, q2, q3, q4, q5, q6, q7, q8, q9, q10⟩ := outBk n b q hb
      have := hWF.names n b0 q9
      omega
     | some z =>
      obtain ⟨k, b', q1, q2, q3, _⟩ := outA n b q (by rw [hb]; simp)
      have := hWo.names k b' q3
      omega
    ·have := hWF.names n b (restF n b q).1
     omega
  ·simp at h
 ·simp at h
end
theorem find_del' : ∀ {H : List (Nat × Blk)} {n m : Nat}, m ≠ n → find (del H n) m = find H m
 | [], _, _, _ => rfl
 | (k, x) :: H, n, m, h => by
  simp only [del, find]
  split
  ·rename_i e
   have e := beq_len e
   subst e
   rw [if_neg (fun e => h (beq_len e).symm)]
   exact find_del' h
  ·simp only [find]
   split
   ·rfl
   ·exact find_del' h
theorem norm_sound {B : Foot} {w0 w : World} (hB : B.base ≤ w0.heap.size) {ρ : Rho} {H : List (Nat × Blk)} {nx : Nat} (hW : WRel B w0 ρ H nx w) : ∃ ρ', Ext ρ ρ' ∧ WRel B w0 ρ' (normH H nx).1 (normH H nx).2 w := by
 unfold normH
 split
 ·rename_i b i _
  split
  ·rename_i y hy
   split
   ·rename_i n k hya hyi
    split
    ·rename_i bl κs c hgr
     split
     ·rename_i hown
      obtain ⟨hfn, hba⟩ := getAr_spec hgr
      obtain ⟨x, hx⟩ := (hW.ext.has b y hy).2 hya
      obtain ⟨hox, vs, hcell, hcs⟩ := hW.mem.blk b y x hy hx
      obtain ⟨v, hv, hr⟩ := hcs.get hyi
      obtain ⟨A, L, hA, hlc, hcm, hz, hL, _, hkd, rfl⟩ := hr
      have hkd := hkd k rfl
      obtain ⟨es, us, k1, k2, k3, k4, k5, k6, k7, k8, k9⟩ := hW.ext.arr n bl κs c A hfn hba hA
      have hA' : ArrOK κs (takeE κs c (some k)) bl.elem ⟨A.g, A.cap, L⟩ w :=
       ⟨es.take L, us.take (L * κs.length), takeE_kind k1 _, k2, takeE_den k3 (fun e => by cases e) (fun x hx => by cases hx; exact hkd), by simp only [List.length_take]; omega, k5, Nat.le_trans hL hlc, k7, k8.take L (by omega), ownsRow_take k9 hL⟩
      obtain ⟨q1, q2⟩ := hW.arr hB (old := some n) (fun m hm => by cases hm; exact ⟨bl, hfn, by rw [hba]; simp, hown⟩) hA' ⟨rfl, rfl, rfl, Nat.le_refl _, fun _ _ _ => rfl⟩ (fun g hg => .inr (by simp only [rowOf, hA]; exact hg))
      have hbn : b ≠ n := fun e => by
       subst e
       rw [hy] at hfn
       cases hfn
       rw [hya] at hba
       cases hba
      have hbx : b ≠ nx := fun e => by have := hW.names b y hy; omega
      have hfb : find ((nx, { cells := [], elem := bl.elem, own := true, arr := some (κs, takeE κs c (some k)) }) :: delO H (some n)) b = some y := by
       simp only [find, delO]
       rw [if_neg (fun e => hbx (beq_len e).symm), find_del' hbn]
       exact hy
      refine ⟨_, q2, ⟨⟨q1.mem.lt, q1.mem.inj, fun m b' x' hf hm => ?_⟩, q1.ext.store hfb (q2.b _ _ hx) _ (fun _ _ => rfl), q1.below, q1.fresh, q1.fra, fun m b' hf => ?_⟩⟩
      ·rcases find_upd _ _ m _ b' hf with ⟨rfl, b0, h0, rfl⟩ | ⟨_, h0⟩
       ·have h0 := hfb.symm.trans h0
        cases h0
        have e : x' = x := by have := q2.b _ _ hx; rw [this] at hm; simpa using hm.symm
        subst e
        refine ⟨hox, vs, hcell, ?_⟩
        have hset := (hcs.mono q2).set (c := .ar nx none) (v := .slice (A.g.map fun g => ⟨g, 0, none⟩) L A.cap) i ⟨⟨A.g, A.cap, L⟩, L, by simp [newArr], Nat.le_trans hL hlc, hcm, hz, Nat.le_refl _, fun _ => rfl, (fun x hx => by cases hx), rfl⟩
        have hid : vs.set i (.slice (A.g.map fun g => ⟨g, 0, none⟩) L A.cap) = vs := by
         apply List.ext_getElem?
         intro j
         by_cases e2 : i = j
         ·subst e2
          have hl : i < vs.length := (List.getElem?_eq_some_iff.1 hv).1
          rw [List.getElem?_set_self hl, hv]
         ·rw [List.getElem?_set_ne e2]
        rw [hid] at hset
        exact hset
       ·exact q1.mem.blk m b' x' h0 hm
      ·rcases find_upd _ _ m _ b' hf with ⟨rfl, b0, h0, _⟩ | ⟨_, h0⟩
       ·exact q1.names _ b0 h0
       ·exact q1.names m b' h0
     ·exact ⟨ρ, Ext.refl ρ, hW⟩
    ·exact ⟨ρ, Ext.refl ρ, hW⟩
   ·exact ⟨ρ, Ext.refl ρ, hW⟩
  ·exact ⟨ρ, Ext.refl ρ, hW⟩
 ·exact ⟨ρ, Ext.refl ρ, hW⟩
end Go.Proofs.YtdioaiepkhepaaaGreatDoor
