/- The symbolic evaluator is sound: code, regions, functions; contracts kept out of sight. No condition. -/
import Derived.Test.YtjgmipklbpghfaaDoorEvA

/- The symbolic evaluator: a region that draws its order. Whatever order is drawn, the operations do what they do in the order of the text. No condition. -/
namespace Go.Proofs.YtjgmipklbpghfaaDoor
open Go.RowKit

/-! An operation looks at its operands alone. -/
section
variable {g g' : Get}
theorem getE_congr {x : Operand} (h : g x = g' x) : getE g x = getE g' x := by unfold getE; rw [h]
theorem getP_congr {x : Operand} (h : g x = g' x) : getP g x = getP g' x := by unfold getP; rw [h]
theorem getA_congr {x : Operand} (h : g x = g' x) : getA g x = getA g' x := by unfold getA; rw [h]
theorem getSl_congr {x : Operand} (h : g x = g' x) : getSl g x = getSl g' x := by unfold getSl; rw [h]
theorem getPs_congr : ∀ (l : List (Nat × Operand)), (∀ x ∈ l.map (·.2), g x = g' x) → getPs g l = getPs g' l
  | [], _ => rfl
  | (i, x) :: l, h => by
    simp only [getPs]
    rw [getP_congr (h x (by simp)), getPs_congr l fun y hy => h y (by simp at hy ⊢; exact .inr hy)]
theorem getAs_congr : ∀ (l : List Operand), (∀ x ∈ l, g x = g' x) → getAs g l = getAs g' l
  | [], _ => rfl
  | x :: l, h => by
    simp only [getAs]
    rw [getA_congr (h x (by simp)), getAs_congr l fun y hy => h y (by simp [hy])]
theorem getSs_congr : ∀ (l : List Operand), (∀ x ∈ l, g x = g' x) → getSs g l = getSs g' l
  | [], _ => rfl
  | x :: l, h => by
    simp only [getSs]
    rw [h x (by simp), getSs_congr l fun y hy => h y (by simp [hy])]
theorem foldE_congr (F : SE → SE → SE) (k : IntKind) : ∀ (l : List Operand) (acc : SE), (∀ x ∈ l, g x = g' x) → foldE F k g acc l = foldE F k g' acc l
  | [], _, _ => rfl
  | x :: l, acc, h => by
    simp only [foldE]
    rw [getE_congr (h x (by simp))]
    split
    · split
      · split
        · exact foldE_congr F k l _ fun y hy => h y (by simp [hy])
        · rfl
      · rfl
    · rfl
theorem minmax_congr (mk : IntKind → SE → SE → SE) (l : List Operand) (h : ∀ x ∈ l, g x = g' x) : minmax mk g l = minmax mk g' l := by
  cases l with
  | nil => rfl
  | cons x l =>
    simp only [minmax]
    rw [getE_congr (h x (by simp))]
    split
    · split
      · rw [foldE_congr _ _ l _ fun y hy => h y (by simp [hy])]
      · rfl
    · rfl
theorem pure_congr {M : MemS} {P : Program} {H : List (Nat × Blk)} {op : Op} (h : ∀ x ∈ op.operands, g x = g' x) : pureStep M P H g op = pureStep M P H g' op := by
  cases op <;> simp only [Op.operands] at h <;> try (simp only [pureStep]; done)
  case move x => simp only [pureStep]; rw [h x (by simp)]
  case assign x => simp only [pureStep]; rw [h x (by simp)]
  case pick c a b => simp only [pureStep]; rw [getE_congr (h c (by simp)), h a (by simp), h b (by simp)]
  case box t x => simp only [pureStep]; rw [getP_congr (h x (by simp))]
  case build t ps => simp only [pureStep]; rw [getPs_congr ps.toList (by simpa using h)]
  case load t x => simp only [pureStep]; rw [getA_congr (h x (by simp)), getE_congr (h x (by simp))]
  case store t x y => simp only [pureStep]; rw [getA_congr (h x (by simp)), getP_congr (h y (by simp))]
  case nilCheck x => simp only [pureStep]; rw [h x (by simp)]
  case binOp op t x y yt => simp only [pureStep]; rw [getP_congr (h x (by simp)), getP_congr (h y (by simp))]
  case unOp op t x => cases op <;> simp only [pureStep] <;> rw [getE_congr (h x (by simp))]
  case convert s d x => simp only [pureStep]; rw [getE_congr (h x (by simp))]
  case fieldAddr s x f => simp only [pureStep]; rw [getA_congr (h x (by simp))]
  case field s x f => simp only [pureStep]; rw [getP_congr (h x (by simp))]
  case indexAddr s x f => simp only [pureStep]; rw [getA_congr (h x (by simp)), getE_congr (h f (by simp)), getE_congr (h x (by simp)), getSl_congr (h x (by simp))]
  case buildSlice t n ps => simp only [pureStep]; rw [getPs_congr ps.toList (by simpa using h)]
  case index s x f => simp only [pureStep]; rw [getP_congr (h x (by simp)), getE_congr (h f (by simp))]
  case extract x i => simp only [pureStep]; rw [h x (by simp)]
  case makeFunc f first caps => cases f <;> simp only [pureStep]; rw [getAs_congr caps.toList fun x hx => h x (by simp at hx ⊢; exact .inr hx)]
  case call c =>
    have ha : ∀ x ∈ c.args.toList, g x = g' x := fun x hx => h x (by simp [Call.operands] at hx ⊢; exact .inr hx)
    simp only [pureStep]
    rw [minmax_congr mkMn _ ha, minmax_congr mkMx _ ha]
    split
    · rfl
    · rfl
    · split
      · rename_i t x _ hx
        rw [getSl_congr (ha x (by rw [hx]; simp)), getE_congr (ha x (by rw [hx]; simp))]
      · rfl
    · rfl
theorem pure_heap {M : MemS} {P : Program} {H H' : List (Nat × Blk)} {o : Oper} (hl : ∀ t x n, (o.op = .load t x ∨ ∃ y, o.op = .store t x y) → (getA g x).map (·.1) = some n → find H n = find H' n) :
    pureStep M P H g o.op = pureStep M P H' g o.op := by
  generalize o.op = op at hl
  cases op <;> try (simp only [pureStep]; done)
  case load t x =>
    simp only [pureStep]
    cases ha : getA g x with
    | none => rfl
    | some p =>
      obtain ⟨n, off⟩ := p
      have e := hl t x n (.inl rfl) (by rw [ha]; rfl)
      simp only [e]
  case store t x y =>
    simp only [pureStep]
    cases ha : getA g x with
    | none => rfl
    | some p =>
      obtain ⟨n, off⟩ := p
      have e := hl t x n (.inr ⟨y, rfl⟩) (by rw [ha]; rfl)
      cases getP g y with
      | none => rfl
      | some v => simp only [e]
  case unOp op t x => cases op <;> simp only [pureStep]
  case makeFunc f a b => cases f <;> simp only [pureStep]
end
end Go.Proofs.YtjgmipklbpghfaaDoor

/- The symbolic evaluator: a region that draws its order, the induction. No condition. -/
namespace Go.Proofs.YtjgmipklbpghfaaDoor
open Go.RowKit

/-- A block reads as it should. -/
def BRel (B : Nat) (ρ : Rho) (w : World) (n : Nat) (b : Blk) : Prop :=
  ∀ x, ρ n = some x → (b.own = true → B ≤ x) ∧ ∃ vs : List Value, w.heap[x]? = some (.cells vs.toArray b.elem (0, 0)) ∧ CsRel ρ b.cells vs
/-- Names stand for blocks that are there, each for its own. -/
structure NRel (ρ : Rho) (w : World) : Prop where
  lt : ∀ n x, ρ n = some x → x < w.heap.size
  inj : ∀ n m x, ρ n = some x → ρ m = some x → n = m
theorem HRel.names {B : Nat} {ρ : Rho} {H : List (Nat × Blk)} {w : World} (h : HRel B ρ H w) : NRel ρ w := ⟨h.lt, h.inj⟩
theorem BRel.below {B : Nat} {ρ : Rho} {w w' : World} {n : Nat} {b : Blk} (h : BRel B ρ w n b) (hn : NRel ρ w) (hb : Below w.heap.size w w') : BRel B ρ w' n b := fun x hx => by
  obtain ⟨h1, vs, h2, h3⟩ := h x hx
  exact ⟨h1, vs, by rw [hb.block x (hn.lt n x hx)]; exact h2, h3⟩
theorem NRel.below {ρ : Rho} {w w' : World} (hn : NRel ρ w) (hb : w.heap.size ≤ w'.heap.size) : NRel ρ w' := ⟨fun n x h => Nat.lt_of_lt_of_le (hn.lt n x h) hb, hn.inj⟩
theorem NRel.alloc {ρ : Rho} {w : World} (hr : NRel ρ w) {n : Nat} (o : Obj) : NRel (newRho ρ n w.heap.size) (w.alloc o) := by
  refine ⟨fun m x hm => ?_, fun m k x hm hk => ?_⟩
  · simp only [newRho] at hm
    simp only [World.size_alloc]
    split at hm
    · simp at hm; omega
    · have := hr.lt m x hm; omega
  · simp only [newRho] at hm hk
    split at hm <;> split at hk
    · rename_i e1 e2; rw [e1, e2]
    · simp at hm; subst hm; have := hr.lt k _ hk; omega
    · simp at hk; subst hk; have := hr.lt m _ hm; omega
    · exact hr.inj m k x hm hk
theorem BRel.alloc_old {B : Nat} {ρ : Rho} {w : World} {n m : Nat} {b : Blk} (h : BRel B ρ w m b) (hr : NRel ρ w) (hn : ρ n = none) (hne : m ≠ n) (o : Obj) : BRel B (newRho ρ n w.heap.size) (w.alloc o) m b := fun x hx => by
  simp only [newRho] at hx
  rw [if_neg hne] at hx
  obtain ⟨h1, vs, h2, h3⟩ := h x hx
  exact ⟨h1, vs, by rw [Below.heap_alloc _ _ _ (hr.lt m x hx)]; exact h2, h3.mono (newRho_ext hn)⟩
theorem BRel.alloc_new {B : Nat} {ρ : Rho} {w : World} {n : Nat} (hn : ρ n = none) (hB : B ≤ w.heap.size) {cs : List SC} {vs : List Value} {t : TypeId} (hc : CsRel ρ cs vs) : BRel B (newRho ρ n w.heap.size) (w.alloc (.cells vs.toArray t)) n ⟨cs, t, true⟩ := fun x hx => by
  simp only [newRho] at hx
  simp at hx
  subst hx
  refine ⟨fun _ => hB, vs, ?_, hc.mono (newRho_ext hn)⟩
  show (w.heap.push _)[w.heap.size]? = _
  simp

theorem find_upd_self : ∀ (H : List (Nat × Blk)) {H2 : List (Nat × Blk)} (n : Nat) (cs : List SC), find H n = find H2 n → find (upd H n cs) n = find (upd H2 n cs) n := by
  have key : ∀ (H : List (Nat × Blk)) (n : Nat) (cs : List SC), find (upd H n cs) n = (find H n).map fun b => { b with cells := cs } := by
    intro H n cs
    induction H with
    | nil => rfl
    | cons p H ih =>
      obtain ⟨m, x⟩ := p
      simp only [upd]
      cases hmn : Nat.beq m n with
      | true => simp [find, hmn]
      | false => simp [find, hmn, ih]
  intro H H2 n cs h
  rw [key, key, h]
theorem vE_val {x : SE} {r : Res} (h : (vE x).den = some r) : ∃ v, r = .val v := ⟨_, vE_some h⟩
theorem ite_val {c : SE} {t f : Tree Res} {r : Res} (ht : t.den = some r → ∃ v, r = .val v) (hf : f.den = some r → ∃ v, r = .val v) (h : (Tree.ite c t f).den = some r) : ∃ v, r = .val v := by
  simp only [Tree.den] at h
  cases hc : tru c.den with
  | true => rw [hc] at h; exact ht h
  | false => rw [hc] at h; exact hf h
theorem fail_val {r : Res} (h : (Tree.fail : Tree Res).den = some r) : ∃ v, r = .val v := by simp [Tree.den] at h
theorem binE_val {op : BinOp} {k k' : IntKind} {a b : SE} {r : Res} (h : (binE op k k' a b).den = some r) : ∃ v, r = .val v := by
  unfold binE at h
  split at h <;> (repeat' (split at h)) <;> first
    | exact vE_val h
    | exact fail_val h
    | exact ite_val fail_val vE_val h
theorem binStep_val {P : Program} {op : BinOp} {t : TypeId} {x y : SP} {r : Res} (h : (binStep P op t x y).den = some r) : ∃ v, r = .val v := by
  unfold binStep at h
  split at h <;> (repeat' (split at h)) <;> first
    | exact vE_val h
    | exact fail_val h
    | exact binE_val h
theorem splitI_res {e : SE} {k : IntKind} {mk : Nat → Tree Res} {r : Res} {p : Prop} (hp : ∀ q, (mk q).den = some r → p) : ∀ (c i : Nat), (splitI e k mk i c).den = some r → p
  | 0, i, h => by simp [splitI, Tree.den] at h
  | c + 1, i, h => by
    simp only [splitI, Tree.den] at h
    generalize tru (SE.cmp .eql e (.lit (.int k i))).den = b at h
    cases b with
    | true => exact hp i h
    | false => exact splitI_res hp c (i + 1) h
theorem atI_res {e : SE} {len : Nat} {mk : Nat → Tree Res} {r : Res} {p : Prop} (hp : ∀ q, (mk q).den = some r → p) (h : (atI e len mk).den = some r) : p := by
  unfold atI at h
  split at h
  · split at h
    · exact hp _ h
    · simp [Tree.den] at h
  · split at h
    · exact splitI_res hp _ _ h
    · simp [Tree.den] at h
theorem minmax_val {mk : IntKind → SE → SE → SE} {g : Get} {l : List Operand} {r : Res} (h : (minmax mk g l).den = some r) : ∃ v, r = .val v := by
  unfold minmax at h
  (repeat' (split at h)) <;> first
    | exact vE_val h
    | exact fail_val h
theorem ret_val {v : SV} {r : Res} (h : (Tree.ret (Res.val v)).den = some r) : ∃ v, r = .val v := by simp [Tree.den] at h; exact ⟨v, h.symm⟩
theorem loadM_val {M : MemS} {P : Program} {t : TypeId} {x : Option SE} {r : Res} (h : (loadM M P t x).den = some r) : ∃ v, r = .val v := by
  unfold loadM at h
  (repeat' (split at h)) <;> first
    | exact ret_val (guard_den h).2
    | exact fail_val h
theorem indexM_val {s : Nat} {x : Option SE} {j : SE} {r : Res} (h : (indexM s x j).den = some r) : ∃ v, r = .val v := by
  unfold indexM at h
  (repeat' (split at h)) <;> first
    | exact ret_val (guard_den h).2
    | exact fail_val h
theorem lenM_val {x : Option SE} {r : Res} (h : (lenM x).den = some r) : ∃ v, r = .val v := by
  unfold lenM at h
  (repeat' (split at h)) <;> first
    | exact vE_val (guard_den h).2
    | exact fail_val h
theorem pure_res {M : MemS} {P : Program} {H : List (Nat × Blk)} {g : Get} {op : Op} {r : Res} (h : (pureStep M P H g op).den = some r) : (∃ v, r = .val v) ∨ (∃ cs t, r = .blk cs t) ∨ (∃ cs t n, r = .sl cs t n) ∨ ∃ t x y, op = .store t x y := by
  unfold pureStep at h
  split at h
  case h_8 => exact .inr (.inr (.inr ⟨_, _, _, rfl⟩))
  all_goals (repeat' (split at h))
  all_goals first
    | exact .inl (ret_val h)
    | exact .inl (fail_val h)
    | exact .inl (vE_val h)
    | exact .inl (binStep_val h)
    | exact .inl (minmax_val h)
    | exact .inl (loadM_val h)
    | exact .inl (indexM_val h)
    | exact .inl (lenM_val h)
    | exact .inl (ite_val ret_val ret_val h)
    | exact .inl (atI_res (fun q h => ret_val h) h)
    | exact .inl (atI_res (fun q h => by split at h; exact ret_val h; exact fail_val h) h)
    | (simp [Tree.den] at h; exact .inr (.inl ⟨_, _, h.symm⟩))
    | (simp [Tree.den] at h; exact .inr (.inr (.inl ⟨_, _, _, h.symm⟩)))

theorem pure_blk {M : MemS} {P : Program} {H : List (Nat × Blk)} {g : Get} {op : Op} {r : Res} (h : (pureStep M P H g op).den = some r) (hr : (∃ cs t, r = .blk cs t) ∨ ∃ cs t n, r = .sl cs t n) :
    (∃ t, op = .alloc t) ∨ (∃ t x, op = .box t x) ∨ ∃ t n ps, op = .buildSlice t n ps := by
  have nv : ∀ {p : Prop}, (∃ v, r = .val v) → p := fun ⟨v, hv⟩ => by
    subst hv
    rcases hr with ⟨_, _, h⟩ | ⟨_, _, _, h⟩ <;> cases h
  unfold pureStep at h
  split at h
  case h_4 => exact .inl ⟨_, rfl⟩
  case h_5 => exact .inr (.inl ⟨_, _, rfl⟩)
  case h_18 => exact .inr (.inr ⟨_, _, _, rfl⟩)
  all_goals (repeat' (split at h))
  all_goals first
    | exact nv (ret_val h)
    | exact nv (fail_val h)
    | exact nv (vE_val h)
    | exact nv (binStep_val h)
    | exact nv (minmax_val h)
    | exact nv (loadM_val h)
    | exact nv (indexM_val h)
    | exact nv (lenM_val h)
    | exact nv (ite_val ret_val ret_val h)
    | exact nv (atI_res (fun q h => ret_val h) h)
    | exact nv (atI_res (fun q h => by split at h; exact ret_val h; exact fail_val h) h)
    | (simp [Tree.den] at h; subst h; rcases hr with ⟨_, _, h⟩ | ⟨_, _, _, h⟩ <;> cases h)

section
variable {P : Program} {I : World → Prop} {rec : Rec} {B : Nat} {w0 : World} (hI : ∀ w, Below B w0 w → I w) {M : MemS} (hM : MemOK P I M) {S : List Sum} (hS : ∀ c ∈ S, SumOK P I c)

/-- How one operation leaves memory. -/
def Leaves (g : Get) (o : Oper) (s s1 : St) : Prop :=
  (isSt o = false ∧ s1.H = s.H ∧ s1.nx = s.nx) ∨ (isSt o = false ∧ accOf g s.nx o = some s.nx ∧ ∃ b, s1.H = (s.nx, b) :: s.H ∧ s1.nx = s.nx + 1) ∨
    (isSt o = true ∧ s1.nx = s.nx ∧ ∃ n cs, accOf g s.nx o = some n ∧ (∃ b, find s.H n = some b) ∧ s1.H = upd s.H n cs)
/-- What one operation does, wherever its operands and the block that it touches read as they should. -/
def Does (P : Program) (B : Nat) (w0 : World) (o : Oper) (s s1 : St) (v : SV) : Prop :=
  ∀ {ρ : Rho} {a : Act} {w : World} {K : Act → World → Prop} {Q : Exit → Act → World → Prop}, (∀ x ∈ o.op.operands, ∀ sv, lookT s.T x = some sv → VRel ρ sv (a.eval x)) → NRel ρ w →
    (∀ n b, accOf (lookT s.T) s.nx o = some n → find s.H n = some b → BRel B ρ w n b) → Below B w0 w →
    (isSt o = false → ∀ x w', VRel ρ v x → Below w.heap.size w w' → s1.H = s.H → s1.nx = s.nx → K (a.put o.dst x) w') →
    (isSt o = false → ∀ x cs t vs, accOf (lookT s.T) s.nx o = some s.nx → s1.H = (s.nx, ⟨cs, t, true⟩) :: s.H → s1.nx = s.nx + 1 → CsRel ρ cs vs → (ρ s.nx = none → VRel (newRho ρ s.nx w.heap.size) v x) → K (a.put o.dst x) (w.alloc (.cells vs.toArray t))) →
    (isSt o = true → ∀ x w' n, accOf (lookT s.T) s.nx o = some n → VRel ρ v x → (∀ b, find s1.H n = some b → BRel B ρ w' n b) → (∀ m y, m ≠ n → ρ m = some y → w'.heap[y]? = w.heap[y]?) → w'.heap.size = w.heap.size → Below B w w' → s1.nx = s.nx → K (a.put o.dst x) w') →
    o.wp P a w K Q
include hI hM hS

/-- What one allowed operation does, looking at its operands alone. -/
theorem oneStep {u : Bool} {o : Oper} {s s1 : St} (hal : allowed M S o = true) (h : (opS M rec P S u o s).den = some s1) :
    ∃ v, s1.T = putT s.T o.dst v ∧ Leaves (lookT s.T) o s s1 ∧ Does P B w0 o s s1 v := by
  unfold opS at h
  split at h
  · rename_i f args ats hop
    have hst : isSt o = false := by simp [isSt, hop]
    split at h
    · rename_i f' caps vs hf hvs
      obtain ⟨⟨sv, H', nx'⟩, h1, h2⟩ := den_bind_some h
      obtain ⟨v', h3, h4⟩ := den_bind_some h2
      simp [Tree.den] at h4
      subst h4
      unfold allowed at hal
      simp only [hop] at hal
      have hff : f = .func f' ∧ caps = [] ∧ ((findS S f').isSome || (findC M.cs f').isSome) = true := by
        cases f with
        | func k => simp only [lookT, Option.some.injEq, SV.p.injEq, SP.c.injEq, SC.fn.injEq] at hf; obtain ⟨rfl, rfl⟩ := hf; exact ⟨rfl, rfl, hal⟩
        | tmp t => simp at hal
        | const t => simp at hal
        | global t => simp at hal
      obtain ⟨rfl, rfl, hfs⟩ := hff
      simp only [capsS, List.map_nil, List.append_nil] at h1
      have key : ∃ (F : List Value → List Value) (A : List PS) (R : RS) (xs : List SE), flatL A vs = some xs ∧ sv = mkR f' F xs R ∧ H' = s.H ∧ nx' = s.nx ∧
          ∀ w, I w → KindsL (kindsL A) (denL xs) → CallOK P f' (packL A (denL xs)).toArray w fun v w' => v = R.pack (F (denL xs)) ∧ KindsL R.kinds (F (denL xs)) ∧ Below w.heap.size w w' := by
        unfold callS at h1
        cases hc : findS S f' with
        | some c =>
          obtain ⟨hmem, rfl⟩ := findS_spec hc
          simp only [hc] at h1
          split at h1
          · rename_i xs hxs
            simp [Tree.den] at h1
            obtain ⟨rfl, rfl, rfl⟩ := h1
            exact ⟨c.F, c.args, c.res, xs, hxs, rfl, rfl, rfl, fun w hw hk => hS c hmem (denL xs) hk w hw⟩
          · simp [Tree.den] at h1
        | none =>
          cases hc2 : findC M.cs f' with
          | none => simp [hc, hc2] at hfs
          | some c =>
            obtain ⟨hmem, rfl⟩ := findC_spec hc2
            simp only [hc, hc2] at h1
            split at h1
            · rename_i xs hxs
              obtain ⟨g1, g2⟩ := guard_den h1
              simp [Tree.den] at g2
              obtain ⟨rfl, rfl, rfl⟩ := g2
              exact ⟨c.F, c.args, c.res, xs, hxs, rfl, rfl, rfl, fun w hw hk => hM.sums c hmem (denL xs) hk g1 w hw⟩
            · simp [Tree.den] at h1
      clear h1 h2
      obtain ⟨F, A, R, xs, hxs, rfl, rfl, rfl, hcallK⟩ := key
      · skip
        refine ⟨v', rfl, .inl ⟨hst, rfl, rfl⟩, fun {ρ a w K Q} hg _ _ hb hK _ _ => ?_⟩
        classical
        let g' : Get := fun x => if x ∈ o.op.operands then lookT s.T x else none
        have hg' : ∀ x sv, g' x = some sv → VRel ρ sv (a.eval x) := fun x sv hx => by
          simp only [g'] at hx
          split at hx
          · rename_i hm; exact hg x hm sv hx
          · simp at hx
        have hvs' : getSs g' args.toList = some vs := by
          rw [← hvs]
          exact getSs_congr _ fun x hx => by simp only [g']; rw [if_pos (by rw [hop]; simp [Op.operands, Call.operands] at hx ⊢; exact .inr hx)]
        have hvr := getSs_rel (ρ := ρ) (e := a.eval) hg' _ _ hvs'
        obtain ⟨e, hk⟩ := flatL_spec hxs hvr
        have hcall := hcallK w (hI w hb) hk
        rw [← e] at hcall
        have hx : (execOp a.eval o).run P w = (callFunc f' (args.toList.map a.eval).toArray).run P w := by
          have e : (args.toList.map a.eval).toArray = args.map a.eval := by apply Array.ext'; simp
          rw [e]
          simp [execOp, hop, resolve, Act.eval, Deferred.ofValue, invoke]
        unfold Oper.wp
        rw [hx]
        refine hcall.upon fun v w' ⟨hv', hk', hb'⟩ => ?_
        subst hv'
        exact hK hst _ w' (part_spec h3 (mkR_rel rfl hk')) hb' rfl rfl
    · simp [Tree.den] at h
  · rename_i hncall
    obtain ⟨r, h1, h2⟩ := den_bind_some h
    -- memory, but for the block that is touched, forgotten
    let H1 : List (Nat × Blk) := match accOf (lookT s.T) s.nx o with
      | some n => match find s.H n with
        | some b => [(n, b)]
        | none => []
      | none => []
    have hH1 : ∀ n b, find H1 n = some b → accOf (lookT s.T) s.nx o = some n ∧ find s.H n = some b := by
      intro n b hn
      simp only [H1] at hn
      split at hn
      · rename_i m ha
        split at hn
        · rename_i c hc
          simp only [find] at hn
          split at hn
          · rename_i e
            have := beq_len e
            subst this
            simp at hn
            subst hn
            exact ⟨ha, hc⟩
          · simp at hn
        · simp [find] at hn
      · simp [find] at hn
    have hH1' : ∀ n, accOf (lookT s.T) s.nx o = some n → find H1 n = find s.H n := by
      intro n ha
      simp only [H1, ha]
      cases hc : find s.H n with
      | none => rfl
      | some c => simp only [find]; rw [if_pos (Nat.beq_refl _)]
    have hpure : pureStep M P s.H (lookT s.T) o.op = pureStep M P H1 (lookT s.T) o.op := pure_heap fun t x n hop ha => (hH1' n (by
      rcases hop with hop | ⟨y, hop⟩ <;> simp only [accOf, hop, ha])).symm
    have main : ∀ {ρ : Rho} {a : Act} {w : World}, (∀ x ∈ o.op.operands, ∀ sv, lookT s.T x = some sv → VRel ρ sv (a.eval x)) → NRel ρ w → (∀ n b, accOf (lookT s.T) s.nx o = some n → find s.H n = some b → BRel B ρ w n b) → Below B w0 w → Eff P B ρ H1 w (execOp a.eval o) r := by
      intro ρ a w hg hn hb hbel
      classical
      let g' : Get := fun x => if x ∈ o.op.operands then lookT s.T x else none
      have hg' : ∀ x sv, g' x = some sv → VRel ρ sv (a.eval x) := fun x sv hx => by
        simp only [g'] at hx
        split at hx
        · rename_i hm; exact hg x hm sv hx
        · simp at hx
      refine pure_sound (g := g') (M := M) (hM.cell w (hI w hbel)) hg' ⟨hn.lt, hn.inj, fun n b x hf hx => ?_⟩ ?_
      · obtain ⟨q1, q2⟩ := hH1 n b hf
        exact hb n b q1 q2 x hx
      · rw [← h1, hpure]
        congr 1
        exact pure_congr fun x hx => by simp only [g']; rw [if_pos hx]
    cases r with
    | val v =>
      simp only [fin] at h2
      obtain ⟨v', h3, h4⟩ := den_bind_some h2
      simp [Tree.den] at h4
      subst h4
      have hst : isSt o = false := by
        cases hst : isSt o with
        | false => rfl
        | true =>
          unfold isSt at hst
          split at hst
          · rename_i t x y hop
            rw [hop] at h1
            simp only [pureStep] at h1
            (repeat' (split at h1)) <;> simp [Tree.den] at h1
          · simp at hst
      refine ⟨v', rfl, .inl ⟨hst, rfl, rfl⟩, fun {ρ a w K Q} hg hn hb hbel hK _ _ => ?_⟩
      obtain ⟨x, hr, hv⟩ := main hg hn hb hbel
      unfold Oper.wp
      rw [hr]
      exact hK hst x w (part_spec h3 hv) (Below.refl _ _) rfl rfl
    | blk cs t =>
      simp [fin, Tree.den] at h2
      subst h2
      have hsm : isSt o = false ∧ accOf (lookT s.T) s.nx o = some s.nx := by
        rcases pure_blk h1 (.inl ⟨_, _, rfl⟩) with ⟨t, hop⟩ | ⟨t, x, hop⟩ | ⟨t, n, ps, hop⟩ <;> simp [isSt, accOf, hop]
      refine ⟨.p (.c (.p s.nx 0)), rfl, .inr (.inl ⟨hsm.1, hsm.2, _, rfl, rfl⟩), fun {ρ a w K Q} hg hn hb hbel _ hK _ => ?_⟩
      obtain ⟨vs, hr, hv⟩ := main hg hn hb hbel
      unfold Oper.wp
      rw [hr]
      exact hK hsm.1 _ cs t vs hsm.2 rfl rfl hv fun _ => ⟨w.heap.size, by simp [newRho], rfl⟩
    | sl cs t len =>
      simp [fin, Tree.den] at h2
      subst h2
      have hsm : isSt o = false ∧ accOf (lookT s.T) s.nx o = some s.nx := by
        rcases pure_blk h1 (.inr ⟨_, _, _, rfl⟩) with ⟨t, hop⟩ | ⟨t, x, hop⟩ | ⟨t, n, ps, hop⟩ <;> simp [isSt, accOf, hop]
      refine ⟨.p (.c (.sl s.nx 0 len len)), rfl, .inr (.inl ⟨hsm.1, hsm.2, _, rfl, rfl⟩), fun {ρ a w K Q} hg hn hb hbel _ hK _ => ?_⟩
      obtain ⟨vs, hr, hv⟩ := main hg hn hb hbel
      unfold Oper.wp
      rw [hr]
      exact hK hsm.1 _ cs t vs hsm.2 rfl rfl hv fun _ => ⟨w.heap.size, by simp [newRho], rfl⟩
    | st n cs off new =>
      simp [fin, Tree.den] at h2
      subst h2
      have hop : isSt o = true ∧ accOf (lookT s.T) s.nx o = some n ∧ ∃ b, find s.H n = some b := by
        rcases pure_res h1 with ⟨v, hv⟩ | ⟨cs, t, hv⟩ | ⟨cs, t, n, hv⟩ | ⟨t, x, y, hop⟩
        · cases hv
        · cases hv
        · cases hv
        · refine ⟨by simp [isSt, hop], ?_⟩
          rw [hop] at h1
          simp only [pureStep] at h1
          split at h1
          · rename_i n' off' v' ha _
            split at h1
            · rename_i b k hb hk
              split at h1
              · simp [Tree.den] at h1
                obtain ⟨rfl, _⟩ := h1
                exact ⟨by simp [accOf, hop, ha], b, hb⟩
              · simp [Tree.den] at h1
            · simp [Tree.den] at h1
          · simp [Tree.den] at h1
      refine ⟨undefS, rfl, .inr (.inr ⟨hop.1, rfl, n, _, hop.2.1, hop.2.2, rfl⟩), fun {ρ a w K Q} hg hn hb hbel _ _ hK => ?_⟩
      obtain ⟨w', hr, hH', hb', hsz, y, b, hy, hfb, hoth⟩ := main hg hn hb hbel
      unfold Oper.wp
      rw [hr]
      refine hK hop.1 _ w' n hop.2.1 undef_rel (fun c hc => ?_) (fun m z hm hz => hoth z fun e => hm (hn.inj m n y (by rw [hz, e]) hy)) hsz hb' rfl
      intro x hx
      have hfs : find (upd H1 n (putC cs off new)) n = some c := by
        have e1 := find_upd_self H1 n (putC cs off new) (hH1' n hop.2.1)
        rw [e1, ← hc]
      exact hH'.blk n c x hfs hx

/-! Along the text. -/
structure Trace (M : MemS) (rec : Rec) (P : Program) (S : List Sum) (ops : Array Oper) (i : Nat) (l : List Oper) (st : Nat → St) (acc : Nat → Option Nat) : Prop where
  step : ∀ k o, l[k]? = some o → ∃ b, wantS ops (st (i + k)).T o = some b ∧ (b = false → st (i + k + 1) = { st (i + k) with T := putT (st (i + k)).T o.dst undefS } ∧ acc (i + k) = none) ∧
    (b = true → (opS M rec P S (used ops (i + k)) o (st (i + k))).den = some (st (i + k + 1)) ∧ acc (i + k) = accOf (lookT (st (i + k)).T) (st (i + k)).nx o)
omit hI hM hS in
theorem trace_of {ops : Array Oper} : ∀ (l : List Oper) (i : Nat) {s s' : St} {as as' : List (Option Nat)}, (evD M rec P S ops i l s as).den = some (s', as') → ∃ (st : Nat → St) (acc : Nat → Option Nat) (bs : List (Option Nat)), st i = s ∧ st (i + l.length) = s' ∧ as' = as ++ bs ∧ bs.length = l.length ∧
    (∀ k, k < l.length → bs[k]? = some (acc (i + k))) ∧ Trace M rec P S ops i l st acc
  | [], i, s, s', as, as', h => by
    simp [evD, Tree.den] at h
    obtain ⟨rfl, rfl⟩ := h
    exact ⟨fun _ => s, fun _ => none, [], rfl, rfl, by simp, rfl, fun k hk => by simp at hk, ⟨fun k o hk => by simp at hk⟩⟩
  | o :: l, i, s, s', as, as', h => by
    have put : ∀ {s1 : St} {st : Nat → St} {acc : Nat → Option Nat} {x : Option Nat} {bs : List (Option Nat)}, st (i + 1) = s1 → st (i + 1 + l.length) = s' → as' = as ++ [x] ++ bs → bs.length = l.length → (∀ k, k < l.length → bs[k]? = some (acc (i + 1 + k))) → Trace M rec P S ops (i + 1) l st acc →
        (∃ b, wantS ops s.T o = some b ∧ (b = false → s1 = { s with T := putT s.T o.dst undefS } ∧ x = none) ∧ (b = true → (opS M rec P S (used ops i) o s).den = some s1 ∧ x = accOf (lookT s.T) s.nx o)) →
        ∃ (st : Nat → St) (acc : Nat → Option Nat) (bs : List (Option Nat)), st i = s ∧ st (i + (o :: l).length) = s' ∧ as' = as ++ bs ∧ bs.length = (o :: l).length ∧ (∀ k, k < (o :: l).length → bs[k]? = some (acc (i + k))) ∧ Trace M rec P S ops i (o :: l) st acc := by
      intro s1 st acc x bs e1 e2 e3 e4 e5 ht hstep
      refine ⟨fun m => if m = i then s else st m, fun m => if m = i then x else acc m, x :: bs, by simp, ?_, by rw [e3]; simp, by simp [e4], fun k hk => ?_, ⟨fun k o' hk => ?_⟩⟩
      · have e : i + (o :: l).length = i + 1 + l.length := by simp; omega
        simp only [e]
        rw [if_neg (show i + 1 + l.length ≠ i by omega)]
        exact e2
      · cases k with
        | zero => simp
        | succ k =>
          have e : i + (k + 1) = i + 1 + k := by omega
          simp only [e]
          rw [if_neg (show i + 1 + k ≠ i by omega)]
          simpa using e5 k (by simpa using hk)
      · cases k with
        | zero =>
          simp at hk
          subst hk
          simpa [e1] using hstep
        | succ k =>
          have := ht.step k o' (by simpa using hk)
          have e : i + (k + 1) = i + 1 + k := by omega
          simp only [e]
          rw [if_neg (show i + 1 + k ≠ i by omega), if_neg (show i + 1 + k + 1 ≠ i by omega), if_neg (show i + 1 + k ≠ i by omega)]
          exact this
    simp only [evD] at h
    split at h
    · simp [Tree.den] at h
    · rename_i hw
      obtain ⟨st, acc, bs, e1, e2, e3, e4, e5, ht⟩ := trace_of l (i + 1) h
      exact put e1 e2 e3 e4 e5 ht ⟨false, hw, fun _ => ⟨rfl, rfl⟩, fun hf => Bool.noConfusion hf⟩
    · rename_i hw
      obtain ⟨s1, h1, h2⟩ := den_bind_some h
      obtain ⟨st, acc, bs, e1, e2, e3, e4, e5, ht⟩ := trace_of l (i + 1) h2
      exact put e1 e2 e3 e4 e5 ht ⟨true, hw, fun hf => Bool.noConfusion hf, fun _ => ⟨h1, rfl⟩⟩
end
end Go.Proofs.YtjgmipklbpghfaaDoor

/- The symbolic evaluator: a region that draws its order is sound. No condition. -/
namespace Go.Proofs.YtjgmipklbpghfaaDoor
open Go.RowKit

/-! Small counts. -/
def cnt (L : Nat → Bool) : Nat → Nat
  | 0 => 0
  | n + 1 => cnt L n + (if L n then 0 else 1)
theorem cnt_le (L : Nat → Bool) : ∀ n, cnt L n ≤ n
  | 0 => Nat.le_refl _
  | n + 1 => by have := cnt_le L n; simp only [cnt]; split <;> omega
theorem cnt_zero {L : Nat → Bool} : ∀ {n}, cnt L n = 0 → ∀ j, j < n → L j = true
  | 0, _, j, h => by omega
  | n + 1, h, j, hj => by
    simp only [cnt] at h
    by_cases e : j = n
    · subst e
      cases hL : L j with
      | true => rfl
      | false => simp [hL] at h
    · exact cnt_zero (n := n) (by omega) j (by omega)
theorem cnt_same {L L' : Nat → Bool} : ∀ {n}, (∀ j, j < n → L j = L' j) → cnt L n = cnt L' n
  | 0, _ => rfl
  | n + 1, h => by simp only [cnt]; rw [cnt_same (n := n) fun j hj => h j (by omega), h n (by omega)]
theorem cnt_set {L L' : Nat → Bool} {i : Nat} (hi : L i = false) (hi' : L' i = true) (h : ∀ j, j ≠ i → L' j = L j) : ∀ {n}, i < n → cnt L' n + 1 = cnt L n
  | 0, hn => by omega
  | n + 1, hn => by
    simp only [cnt]
    by_cases e : i = n
    · subst e
      rw [cnt_same (L := L') (L' := L) fun j hj => h j (by omega), hi, hi']
      simp
    · have := cnt_set hi hi' h (n := n) (by omega)
      rw [h n (fun e' => e e'.symm)]
      omega

/-! The checks, read. -/
theorem apartD_spec : ∀ {l : List (Option Tmp)}, apartD l = true → ∀ (i j : Nat) (d : Tmp), l[i]? = some (some d) → l[j]? = some (some d) → i = j
  | [], _, i, j, d, h, _ => by simp at h
  | none :: l, h, i, j, d, hi, hj => by
    cases i with
    | zero => simp at hi
    | succ i => cases j with
      | zero => simp at hj
      | succ j => rw [apartD_spec (l := l) h i j d (by simpa using hi) (by simpa using hj)]
  | some c :: l, h, i, j, d, hi, hj => by
    simp only [apartD, Bool.and_eq_true] at h
    have hn : some c ∉ l := by simpa using h.1
    cases i with
    | zero =>
      simp at hi
      subst hi
      cases j with
      | zero => rfl
      | succ j => exact absurd (List.mem_of_getElem? (by simpa using hj)) hn
    | succ i => cases j with
      | zero =>
        simp at hj
        subst hj
        exact absurd (List.mem_of_getElem? (by simpa using hi)) hn
      | succ j => rw [apartD_spec (l := l) h.2 i j d (by simpa using hi) (by simpa using hj)]

theorem slotsOk_spec {ms : List Nat} {lk : List Tmp} {i m : Nat} : ∀ {l : List (Option Tmp)} {k : Nat}, slotsOk ms lk i m k l = true → ∀ (j : Nat) (d : Tmp), l[j]? = some (some d) → d ∈ lk → (k + j < i ∧ m.testBit (k + j) = true) ∨ (i < k + j ∧ (ms.getD (k + j) 0).testBit i = true)
  | [], _, _, j, d, h, _ => by simp at h
  | none :: l, k, h, j, d, hj, hd => by
    cases j with
    | zero => simp at hj
    | succ j =>
      have := slotsOk_spec (l := l) (k := k + 1) h j d (by simpa using hj) hd
      rwa [show k + 1 + j = k + (j + 1) by omega] at this
  | some c :: l, k, h, j, d, hj, hd => by
    simp only [slotsOk, Bool.and_eq_true] at h
    cases j with
    | zero =>
      simp at hj
      subst hj
      have h1 := h.1
      simp only [Bool.or_eq_true, Bool.and_eq_true] at h1
      rcases h1 with h1 | ⟨h1, h2⟩ | ⟨h1, h2⟩
      · have : lk.contains c = true := by simpa using hd
        rw [this] at h1
        exact Bool.noConfusion h1
      · refine .inl ⟨?_, h2⟩
        have := Nat.le_of_ble_eq_true h1
        exact this
      · refine .inr ⟨?_, h2⟩
        have := Nat.le_of_ble_eq_true h1
        exact this
    | succ j =>
      have := slotsOk_spec (l := l) (k := k + 1) h.2 j d (by simpa using hj) hd
      rwa [show k + 1 + j = k + (j + 1) by omega] at this

/-- The bits of the masks lie in every set that is closed under 'hangs on'. -/
def MaskIn (D : Nat → Prop) (acc : List Nat) : Prop := ∀ k m j, acc[k]? = some m → D k → m.testBit j = true → D j
theorem maskOf_in {D : Nat → Prop} {acc : List Nat} (ha : MaskIn D acc) : ∀ {es : List Edge}, (∀ e ∈ es, Region.binds .any e = true → D e.on) → ∀ j, (maskOf acc es).testBit j = true → D j
  | [], _, j, h => by simp [maskOf] at h
  | e :: es, he, j, h => by
    have ih := maskOf_in ha (es := es) fun x hx => he x (by simp [hx])
    simp only [maskOf] at h
    split at h
    · rename_i hb
      have hD := he e (by simp) hb
      rw [Nat.testBit_or, Nat.testBit_or] at h
      simp only [Bool.or_eq_true] at h
      rcases h with (h | h) | h
      · rw [Nat.testBit_two_pow] at h
        simp at h
        exact h ▸ hD
      · cases hm : acc[e.on]? with
        | none => simp [List.getD, hm] at h
        | some m => simp [List.getD, hm] at h; exact ha _ _ _ hm hD h
      · exact ih j h
    · exact ih j h

theorem hangs_spec {dsts : List (Option Tmp)} {ops : Array Oper} {ms : List Nat} {D : Nat → Prop} : ∀ {l : List Oper} {i : Nat} {acc : List Nat}, hangs dsts ops ms i acc l = true → acc.length = i → MaskIn D acc →
    (∀ k o, l[k]? = some o → D (i + k) → ∀ e ∈ o.after, Region.binds .any e = true → D e.on) → ∀ k o, l[k]? = some o →
      (∀ e ∈ o.after, Region.binds .any e = true → e.on < i + k) ∧ ((∀ e ∈ o.after, Region.binds .any e = true → D e.on) → ∀ j d, dsts[j]? = some (some d) → d ∈ Oper.looksAt ops o → (j < i + k ∧ D j) ∨ (i + k < j ∧ (ms.getD j 0).testBit (i + k) = true))
  | [], _, _, _, _, _, _, k, o, hk => by simp at hk
  | o :: l, i, acc, h, hl, ha, hD, k, o', hk => by
    simp only [hangs, Bool.and_eq_true] at h
    obtain ⟨⟨h1, h2⟩, h3⟩ := h
    cases k with
    | zero =>
      simp at hk
      subst hk
      refine ⟨fun e he hb => ?_, fun hd j d hj hdl => ?_⟩
      · have := List.all_eq_true.1 h1 e (by simpa using he)
        simp only [Bool.or_eq_true, Bool.not_eq_true'] at this
        rcases this with this | this
        · rw [hb] at this; exact Bool.noConfusion this
        · have := Nat.le_of_ble_eq_true this
          exact this
      · rcases slotsOk_spec h2 j d hj hdl with ⟨p, q⟩ | ⟨p, q⟩
        · simp only [Nat.zero_add] at p q
          exact .inl ⟨p, maskOf_in ha (fun e he hb => hd e (by simpa using he) hb) j q⟩
        · simp only [Nat.zero_add] at p q
          exact .inr ⟨p, q⟩
    | succ k =>
      have ha' : MaskIn D (acc ++ [maskOf acc o.after.toList]) := by
        intro k m j hk hDk hm
        rcases Nat.lt_or_ge k acc.length with hlt | hge
        · rw [List.getElem?_append_left hlt] at hk
          exact ha k m j hk hDk hm
        · rw [List.getElem?_append_right hge] at hk
          have e : k = i := by
            rcases Nat.eq_zero_or_pos (k - acc.length) with e | e
            · omega
            · rw [List.getElem?_eq_none (by simp; omega)] at hk; simp at hk
          subst e
          rw [hl] at hk
          simp at hk
          subst hk
          exact maskOf_in ha (fun e he hb => hD 0 o (by simp) (by simpa using hDk) e (by simpa using he) hb) j hm
      have := hangs_spec (l := l) (i := i + 1) h3 (by simp [hl]) ha' (fun k o hk hDk => hD (k + 1) o (by simpa using hk) (by rwa [show i + (k + 1) = i + 1 + k by omega])) k o' (by simpa using hk)
      rwa [show i + 1 + k = i + (k + 1) by omega] at this

theorem find_upd_ne : ∀ (H : List (Nat × Blk)) (n m : Nat) (cs : List SC), m ≠ n → find (upd H m cs) n = find H n
  | [], _, _, _, _ => rfl
  | (k, x) :: H, n, m, cs, h => by
    simp only [upd]
    cases hkm : Nat.beq k m with
    | true =>
      have e := beq_len hkm
      subst e
      simp only [if_true, find]
      cases hkn : Nat.beq k n with
      | true => exact absurd (beq_len hkn) h
      | false => rfl
    | false =>
      simp only [Bool.false_eq_true, if_false, find]
      rw [find_upd_ne H n m cs h]

section
variable {P : Program} {rec : Rec} {B : Nat} {w0 : World} {S : List Sum} {ops : Array Oper}

/-- What the text's order tells of each operation. -/
structure Facts (B : Nat) (w0 : World) (P : Program) (ops : Array Oper) (st : Nat → St) (acc : Nat → Option Nat) : Prop where
  one : ∀ i o, ops[i]? = some o → ∃ b, wantS ops (st i).T o = some b ∧ (b = false → st (i + 1) = { st i with T := putT (st i).T o.dst undefS } ∧ acc i = none) ∧
    (b = true → acc i = accOf (lookT (st i).T) (st i).nx o ∧ ∃ v, (st (i + 1)).T = putT (st i).T o.dst v ∧ Leaves (lookT (st i).T) o (st i) (st (i + 1)) ∧ Does P B w0 o (st i) (st (i + 1)) v)

/-- The j-th operation stores into block n. -/
def StoreAt (ops : Array Oper) (acc : Nat → Option Nat) (j n : Nat) : Prop := ∃ o, ops[j]? = some o ∧ isSt o = true ∧ acc j = some n
def NoSt (ops : Array Oper) (acc : Nat → Option Nat) (n i k : Nat) : Prop := ∀ j, i ≤ j → j < k → ¬ StoreAt ops acc j n

variable {st : Nat → St} {acc : Nat → Option Nat} (F : Facts B w0 P ops st acc)
include F
theorem Facts.cases {i : Nat} {o : Oper} (ho : ops[i]? = some o) : (∃ v, (st (i + 1)).T = putT (st i).T o.dst v) ∧
    (((st (i + 1)).H = (st i).H ∧ (st (i + 1)).nx = (st i).nx) ∨ (isSt o = false ∧ acc i = some (st i).nx ∧ ∃ b, (st (i + 1)).H = ((st i).nx, b) :: (st i).H ∧ (st (i + 1)).nx = (st i).nx + 1) ∨ (isSt o = true ∧ (st (i + 1)).nx = (st i).nx ∧ ∃ n cs, acc i = some n ∧ (st (i + 1)).H = upd (st i).H n cs)) := by
  obtain ⟨b, _, h1, h2⟩ := F.one i o ho
  cases b with
  | false => rw [(h1 rfl).1]; exact ⟨⟨_, rfl⟩, .inl ⟨rfl, rfl⟩⟩
  | true =>
    obtain ⟨ha, v, h3, h4, _⟩ := h2 rfl
    refine ⟨⟨v, h3⟩, ?_⟩
    rcases h4 with ⟨_, h⟩ | ⟨q1, q2, q3⟩ | ⟨q1, q2, n, cs, q3, _, q4⟩
    · exact .inl h
    · exact .inr (.inl ⟨q1, by rw [ha]; exact q2, q3⟩)
    · exact .inr (.inr ⟨q1, q2, n, cs, by rw [ha]; exact q3, q4⟩)
theorem Facts.nx_le : ∀ {i k : Nat}, i + k ≤ ops.size → (st i).nx ≤ (st (i + k)).nx
  | i, 0, _ => Nat.le_refl _
  | i, k + 1, h => by
    have ih := Facts.nx_le (i := i) (k := k) (by omega)
    obtain ⟨_, h1 | ⟨_, _, b, _, h1⟩ | ⟨_, h1, _⟩⟩ := F.cases (i := i + k) (o := ops[i + k]'(by omega)) (Array.getElem?_eq_getElem (by omega))
    · rw [show i + (k + 1) = i + k + 1 by omega, h1.2]; exact ih
    · rw [show i + (k + 1) = i + k + 1 by omega, h1]; omega
    · rw [show i + (k + 1) = i + k + 1 by omega, h1]; exact ih
theorem Facts.nx_mono {i k : Nat} (h : i ≤ k) (hk : k ≤ ops.size) : (st i).nx ≤ (st k).nx := by
  have := F.nx_le (i := i) (k := k - i) (by omega)
  rwa [show i + (k - i) = k by omega] at this
theorem Facts.len : ∀ {i : Nat}, i ≤ ops.size → (st i).T.length = (st 0).T.length
  | 0, _ => rfl
  | i + 1, h => by
    obtain ⟨⟨v, hv⟩, _⟩ := F.cases (i := i) (o := ops[i]'(by omega)) (Array.getElem?_eq_getElem (by omega))
    rw [hv, ← Facts.len (i := i) (by omega)]
    cases (ops[i]'(by omega)).dst <;> simp [putT]
/-- A slot that no operation from i on, before the (i + k)-th, writes. -/
theorem Facts.keep : ∀ {i k t : Nat}, i + k ≤ ops.size → (∀ j o, i ≤ j → j < i + k → ops[j]? = some o → o.dst ≠ some t) → (st (i + k)).T[t]? = (st i).T[t]?
  | i, 0, t, _, _ => rfl
  | i, k + 1, t, h, hk => by
    have ih := Facts.keep (i := i) (k := k) (t := t) (by omega) fun j o h1 h2 => hk j o h1 (by omega)
    have ho : ops[i + k]? = some (ops[i + k]'(by omega)) := Array.getElem?_eq_getElem (by omega)
    obtain ⟨⟨v, hv⟩, _⟩ := F.cases ho
    have hd := hk (i + k) _ (by omega) (by omega) ho
    rw [show i + (k + 1) = i + k + 1 by omega, hv, ← ih]
    cases hdst : (ops[i + k]'(by omega)).dst with
    | none => rfl
    | some d =>
      rw [hdst] at hd
      simp only [putT]
      rw [List.getElem?_set_ne (fun e => hd (by rw [e]))]
theorem Facts.names (h0 : ∀ n b, find (st 0).H n = some b → n < (st 0).nx) : ∀ {i : Nat}, i ≤ ops.size → ∀ n b, find (st i).H n = some b → n < (st i).nx
  | 0, _ => h0
  | i + 1, h => fun n b hn => by
    have ih := Facts.names h0 (i := i) (by omega)
    obtain ⟨_, h1 | ⟨_, _, b', h1, h2⟩ | ⟨_, h2, m, cs, _, h1⟩⟩ := F.cases (i := i) (o := ops[i]'(by omega)) (Array.getElem?_eq_getElem (by omega))
    · rw [h1.2]; rw [h1.1] at hn; exact ih n b hn
    · rw [h2]
      rw [h1] at hn
      simp only [find] at hn
      split at hn
      · rename_i e; have := beq_len e; omega
      · have := ih n b hn; omega
    · rw [h2]
      rw [h1] at hn
      rcases find_upd _ _ n _ b hn with ⟨rfl, b0, hb0, _⟩ | ⟨_, hb⟩
      · exact ih _ b0 hb0
      · exact ih n b hb
theorem Facts.heap_le (h0 : ∀ n b, find (st 0).H n = some b → n < (st 0).nx) {n : Nat} : ∀ {i k : Nat}, i + k ≤ ops.size → NoSt ops acc n i (i + k) → ∀ b, find (st i).H n = some b → find (st (i + k)).H n = some b
  | i, 0, _, _, b, hn => hn
  | i, k + 1, h, hno, b, hn => by
    have ih := Facts.heap_le h0 (n := n) (i := i) (k := k) (by omega) (fun j h1 h2 => hno j h1 (by omega)) b hn
    have ho : ops[i + k]? = some (ops[i + k]'(by omega)) := Array.getElem?_eq_getElem (by omega)
    obtain ⟨_, h1 | ⟨_, _, b', h1, h2⟩ | ⟨h2, _, m, cs, ha, h1⟩⟩ := F.cases (i := i + k) (o := ops[i + k]'(by omega)) ho
    · rw [show i + (k + 1) = i + k + 1 by omega, h1.1]; exact ih
    · rw [show i + (k + 1) = i + k + 1 by omega, h1]
      have := F.names h0 (i := i + k) (by omega) n b ih
      simp only [find]
      rw [if_neg (fun e => by have := beq_len e; omega)]
      exact ih
    · rw [show i + (k + 1) = i + k + 1 by omega, h1, find_upd_ne _ _ _ _ (fun e => hno (i + k) (by omega) (by omega) ⟨_, ho, h2, by rw [ha, e]⟩)]
      exact ih
theorem Facts.heap (h0 : ∀ n b, find (st 0).H n = some b → n < (st 0).nx) {n i k : Nat} (h : i ≤ k) (hk : k ≤ ops.size) (hno : NoSt ops acc n i k) {b : Blk} (hb : find (st i).H n = some b) : find (st k).H n = some b := by
  have := F.heap_le h0 (n := n) (i := i) (k := k - i) (by omega) (by rwa [show i + (k - i) = k by omega]) b hb
  rwa [show i + (k - i) = k by omega] at this
theorem Facts.back_le {n : Nat} : ∀ {i k : Nat}, i + k ≤ ops.size → NoSt ops acc n i (i + k) → n < (st i).nx → ∀ b, find (st (i + k)).H n = some b → find (st i).H n = some b
  | i, 0, _, _, _, b, hn => hn
  | i, k + 1, h, hno, hlt, b, hn => by
    have ih := Facts.back_le (n := n) (i := i) (k := k) (by omega) (fun j h1 h2 => hno j h1 (by omega)) hlt b
    have hle := F.nx_le (i := i) (k := k) (by omega)
    have ho : ops[i + k]? = some (ops[i + k]'(by omega)) := Array.getElem?_eq_getElem (by omega)
    obtain ⟨_, h1 | ⟨_, _, b', h1, h2⟩ | ⟨h2, _, m, cs, ha, h1⟩⟩ := F.cases (i := i + k) (o := ops[i + k]'(by omega)) ho
    · rw [show i + (k + 1) = i + k + 1 by omega, h1.1] at hn; exact ih hn
    · rw [show i + (k + 1) = i + k + 1 by omega, h1] at hn
      simp only [find] at hn
      rw [if_neg (fun e => by have := beq_len e; omega)] at hn
      exact ih hn
    · rw [show i + (k + 1) = i + k + 1 by omega, h1, find_upd_ne _ _ _ _ (fun e => hno (i + k) (by omega) (by omega) ⟨_, ho, h2, by rw [ha, e]⟩)] at hn
      exact ih hn
theorem Facts.back {n i k : Nat} (h : i ≤ k) (hk : k ≤ ops.size) (hno : NoSt ops acc n i k) (hlt : n < (st i).nx) {b : Blk} (hb : find (st k).H n = some b) : find (st i).H n = some b :=
  F.back_le (n := n) (i := i) (k := k - i) (by omega) (by rwa [show i + (k - i) = k by omega]) hlt b (by rwa [show i + (k - i) = k by omega])
end

/-! The check on accesses, read. -/
theorem sameB_self (n : Nat) : sameB (some n) (some n) = true := Nat.beq_refl n
theorem accRow_spec {ms : List Nat} {i n : Nat} : ∀ {l : List (Option Nat)} {k : Nat}, accRow ms i (some n) k l = true → ∀ j : Nat, l[j]? = some (some n) → (k + j < i → (ms.getD i 0).testBit (k + j) = true) ∧ (i < k + j → (ms.getD (k + j) 0).testBit i = true)
  | [], _, _, j, h => by simp at h
  | y :: l, k, h, j, hj => by
    simp only [accRow, Bool.and_eq_true] at h
    cases j with
    | zero =>
      simp at hj
      subst hj
      have h1 := h.1
      simp only [sameB_self, Bool.not_true, Bool.false_or, Bool.and_eq_true, Bool.or_eq_true, Bool.not_eq_true'] at h1
      refine ⟨fun hlt => ?_, fun hlt => ?_⟩
      · rcases h1.1 with e | e
        · exact absurd (Nat.ble_eq_true_of_le (show k + 1 ≤ i by omega)) (by have e' : Nat.ble (k + 1) i = false := e; rw [e']; simp)
        · exact e
      · rcases h1.2 with e | e
        · exact absurd (Nat.ble_eq_true_of_le (show i + 1 ≤ k by omega)) (by have e' : Nat.ble (i + 1) k = false := e; rw [e']; simp)
        · exact e
    | succ j =>
      have := accRow_spec (l := l) (k := k + 1) h.2 j (by simpa using hj)
      rwa [show k + 1 + j = k + (j + 1) by omega] at this
theorem accAll_spec {ms : List Nat} {all : List (Option Nat)} : ∀ {l : List Oper} {ns : List (Option Nat)} {k : Nat}, accAll ms all k l ns = true → ∀ (i : Nat) (o : Oper) (n : Nat), l[i]? = some o → ns[i]? = some (some n) → isSt o = true → accRow ms (k + i) (some n) 0 all = true
  | [], _, _, _, i, o, n, h, _, _ => by simp at h
  | _ :: _, [], _, _, i, o, n, _, h, _ => by simp at h
  | y :: l, m :: ns, k, h, i, o, n, hi, hn, hs => by
    simp only [accAll, Bool.and_eq_true] at h
    cases i with
    | zero => simp at hi hn; subst hi hn; simpa [hs] using h.1
    | succ i =>
      have := accAll_spec (l := l) (ns := ns) (k := k + 1) h.2 i o n (by simpa using hi) (by simpa using hn) hs
      rwa [show k + 1 + i = k + (i + 1) by omega] at this
theorem masks_in {D : Nat → Prop} : ∀ {l : List Oper} {acc : List Nat}, MaskIn D acc → (∀ k o, l[k]? = some o → D (acc.length + k) → ∀ e ∈ o.after, Region.binds .any e = true → D e.on) → MaskIn D (masks acc l)
  | [], _, ha, _ => ha
  | o :: l, acc, ha, hD => by
    simp only [masks]
    refine masks_in (l := l) ?_ fun k o' hk hd => ?_
    · intro k m j hk hDk hm
      rcases Nat.lt_or_ge k acc.length with hlt | hge
      · rw [List.getElem?_append_left hlt] at hk
        exact ha k m j hk hDk hm
      · rw [List.getElem?_append_right hge] at hk
        have e : k = acc.length := by
          rcases Nat.eq_zero_or_pos (k - acc.length) with e | e
          · omega
          · rw [List.getElem?_eq_none (by simp; omega)] at hk; simp at hk
        subst e
        simp at hk
        subst hk
        exact maskOf_in ha (fun e he hb => hD 0 o (by simp) (by simpa using hDk) e (by simpa using he) hb) j hm
    · exact hD (k + 1) o' (by simpa using hk) (by simp at hd; rwa [show acc.length + (k + 1) = acc.length + 1 + k by omega])
end Go.Proofs.YtjgmipklbpghfaaDoor

/- The symbolic evaluator: a region that draws its order is sound, whatever is drawn. No condition. -/
namespace Go.Proofs.YtjgmipklbpghfaaDoor
open Go.RowKit

section
variable {P : Program} {rec : Rec} {B : Nat} {w0 : World} (hB : B ≤ w0.heap.size) {S : List Sum} {ops : Array Oper} {st : Nat → St} {acc : Nat → Option Nat}

/-- Memory in the middle of a region: each block stands as it does ahead of the next store into it. -/
def Mem (B : Nat) (ops : Array Oper) (acc : Nat → Option Nat) (st : Nat → St) (L : Array Bool) (ρ : Rho) (w : World) : Prop :=
  ∃ v : Nat → Nat, (∀ n, v n ≤ ops.size) ∧ (∀ n, v n < ops.size → StoreAt ops acc (v n) n ∧ L.getD (v n) false = false) ∧ (∀ n j, j < v n → StoreAt ops acc j n → L.getD j false = true) ∧
    ∀ n b, find (st (v n)).H n = some b → BRel B ρ w n b

structure Jn (B : Nat) (w0 : World) (ops : Array Oper) (acc : Nat → Option Nat) (st : Nat → St) (ρ0 : Rho) (L : Array Bool) (ρ : Rho) (a : Act) (w : World) : Prop where
  ext : Ext ρ0 ρ
  size : L.size = ops.size
  down : ∀ k o, ops[k]? = some o → L.getD k false = true → ∀ e ∈ o.after, Region.binds .any e = true → L.getD e.on false = true
  tsz : a.tmps.size = (st 0).T.length
  done : ∀ j o t sv, ops[j]? = some o → o.dst = some t → L.getD j false = true → (st ops.size).T[t]? = some sv → ∃ v, a.tmps[t]? = some v ∧ VRel ρ sv v
  todo : ∀ t sv, (∀ j o, ops[j]? = some o → o.dst = some t → L.getD j false = false) → (st 0).T[t]? = some sv → ∃ v, a.tmps[t]? = some v ∧ VRel ρ sv v
  nam : NRel ρ w
  mem : Mem B ops acc st L ρ w
  below : Below B w0 w
  defers : a.defers = []
  fr : ∀ j, j < ops.size → L.getD j false = false → (st j).nx < (st (j + 1)).nx → ρ (st j).nx = none
  fr2 : ∀ m, (st ops.size).nx ≤ m → ρ m = none

variable (F : Facts B w0 P ops st acc) (hd : apartD (ops.toList.map (·.dst)) = true)

theorem getD_set {L : Array Bool} {i j : Nat} (hi : i < L.size) : (L.setIfInBounds i true).getD j false = if j = i then true else L.getD j false := by
  split
  · rename_i e; subst e; simp [hi]
  · rename_i e; exact getD_set_ne false (fun e' => e e'.symm)

include F hd
theorem Jn.next {ρ0 : Rho} {L : Array Bool} {ρ ρ' : Rho} {a : Act} {w w' : World} (J : Jn B w0 ops acc st ρ0 L ρ a w) {i : Nat} {o : Oper} (ho : ops[i]? = some o) (hpre : ∀ e ∈ o.after, Region.binds .any e = true → L.getD e.on false = true)
    {v : SV} {x : Value} (hT : (st (i + 1)).T = putT (st i).T o.dst v) (hv : VRel ρ' v x) (hx : Ext ρ ρ') (hnm : NRel ρ' w') (hm : Mem B ops acc st (L.setIfInBounds i true) ρ' w') (hb : Below B w0 w')
    (hfr : ∀ m, ρ m = none → ((st i).nx < (st (i + 1)).nx → m ≠ (st i).nx) → ρ' m = none) : Jn B w0 ops acc st ρ0 (L.setIfInBounds i true) ρ' (a.put o.dst x) w' := by
  have hi : i < ops.size := (Array.getElem?_eq_some_iff.1 ho).1
  have hiL : i < L.size := by rw [J.size]; exact hi
  have dst_eq : ∀ j o', ops[j]? = some o' → ∀ t, o'.dst = some t → o.dst = some t → j = i := fun j o' hj t h1 h2 =>
    apartD_spec hd j i t (by simp [hj, h1]) (by simp [ho, h2])
  refine ⟨J.ext.trans hx, by simp [J.size], fun k o' hk hL e he hbn => ?_, ?_, fun j o' t sv hj hdst hL hs => ?_, fun t sv hn hs => ?_, hnm, hm, hb, put_defers _ _ J.defers, fun j hj hL hlt => ?_, fun m hm' => ?_⟩
  · rw [getD_set hiL] at hL ⊢
    split
    · rfl
    · split at hL
      · rename_i e; subst e; rw [ho] at hk; cases hk; exact hpre e he hbn
      · exact J.down k o' hk hL e he hbn
  · rw [← J.tsz]; cases o.dst <;> simp [Act.put]
  · by_cases e : j = i
    · subst e
      rw [ho] at hj
      cases hj
      have hk := F.keep (i := j + 1) (k := ops.size - (j + 1)) (t := t) (by omega) (fun k o' h1 h2 hk hdk => by have := dst_eq k o' hk t hdk hdst; omega)
      rw [show j + 1 + (ops.size - (j + 1)) = ops.size by omega] at hk
      rw [hk, hT, hdst] at hs
      simp only [putT] at hs
      have hlt : t < (st j).T.length := by
        rcases Nat.lt_or_ge t (st j).T.length with h | h
        · exact h
        · rw [List.getElem?_eq_none (by simpa using h)] at hs; simp at hs
      rw [List.getElem?_set_self hlt] at hs
      simp at hs
      subst hs
      refine ⟨x, ?_, hv⟩
      rw [hdst]
      simp only [Act.put]
      have : t < a.tmps.size := by rw [J.tsz, ← F.len (i := j) (by omega)]; exact hlt
      simp [this]
    · rw [getD_set hiL, if_neg e] at hL
      obtain ⟨u, hu, hr⟩ := J.done j o' t sv hj hdst hL hs
      refine ⟨u, ?_, VRel.mono hx hr⟩
      cases hod : o.dst with
      | none => exact hu
      | some d =>
        simp only [Act.put]
        rw [Array.getElem?_setIfInBounds_ne (fun e' => e (dst_eq j o' hj t hdst (by rw [hod, e'])))]
        exact hu
  · have hnd : o.dst ≠ some t := fun e => by
      have := hn i o ho e
      rw [getD_set hiL, if_pos rfl] at this
      exact Bool.noConfusion this
    obtain ⟨u, hu, hr⟩ := J.todo t sv (fun j o' hj hdst => by
      have := hn j o' hj hdst
      rw [getD_set hiL] at this
      split at this
      · exact Bool.noConfusion this
      · exact this) hs
    refine ⟨u, ?_, VRel.mono hx hr⟩
    cases hod : o.dst with
    | none => exact hu
    | some d =>
      simp only [Act.put]
      rw [Array.getElem?_setIfInBounds_ne (fun e' => hnd (by rw [hod, e']))]
      exact hu
  · rw [getD_set hiL] at hL
    split at hL
    · exact Bool.noConfusion hL
    · rename_i e
      refine hfr _ (J.fr j hj hL hlt) fun hlt' heq => ?_
      rcases Nat.lt_or_ge j i with h | h
      · have := F.nx_mono (i := j + 1) (k := i) (by omega) (by omega); omega
      · have := F.nx_mono (i := i + 1) (k := j) (by omega) (by omega); omega
  · refine hfr m (J.fr2 m hm') fun hlt' heq => ?_
    have := F.nx_mono (i := i + 1) (k := ops.size) (by omega) (Nat.le_refl _)
    omega

variable (hh : hangs (ops.toList.map (·.dst)) ops (masks [] ops.toList) 0 [] ops.toList = true)
  (hst : ∀ s j n, StoreAt ops acc s n → j < ops.size → acc j = some n → (j < s → ((masks [] ops.toList).getD s 0).testBit j = true) ∧ (s < j → ((masks [] ops.toList).getD j 0).testBit s = true))
  (h0 : ∀ n b, find (st 0).H n = some b → n < (st 0).nx)
include hB hh hst h0

omit hB hd hh hst in
theorem Jn.last {ρ0 : Rho} {L : Array Bool} {ρ : Rho} {a : Act} {w : World} (J : Jn B w0 ops acc st ρ0 L ρ a w) (hall : ∀ j, j < ops.size → L.getD j false = true) : StRel B w0 ρ (st ops.size) a w := by
  have hmem : HRel B ρ (st ops.size).H w := by
    obtain ⟨v, h1, h2, h3, h4⟩ := J.mem
    refine ⟨J.nam.lt, J.nam.inj, fun n b x hb hx => h4 n b ?_ x hx⟩
    have : v n = ops.size := by
      rcases Nat.lt_or_ge (v n) ops.size with hlt | hge
      · obtain ⟨_, hL⟩ := h2 n hlt
        rw [hall _ hlt] at hL
        exact Bool.noConfusion hL
      · have := h1 n; omega
    rw [this]
    exact hb
  refine ⟨?_, hmem, J.below, J.fr2, F.names h0 (Nat.le_refl _), J.defers⟩
  have key : ∀ (T : List SV) (vs : List Value), T.length = vs.length → (∀ (t : Nat) (sv : SV), T[t]? = some sv → ∃ v, vs[t]? = some v ∧ VRel ρ sv v) → VsRel ρ T vs := by
    intro T
    induction T with
    | nil => intro vs hl _; cases vs with
      | nil => trivial
      | cons v vs => simp at hl
    | cons s T ih => intro vs hl hk; cases vs with
      | nil => simp at hl
      | cons v vs =>
        obtain ⟨u, hu, hr⟩ := hk 0 s rfl
        simp at hu
        subst hu
        exact ⟨hr, ih vs (by simpa using hl) fun t sv ht => by simpa using hk (t + 1) sv (by simpa using ht)⟩
  refine key _ _ (by rw [F.len (Nat.le_refl _), ← J.tsz]; simp) fun t sv ht => ?_
  classical
  by_cases h : ∃ (j : Nat) (o : Oper), ops[j]? = some o ∧ o.dst = some t
  · obtain ⟨j, o, hj, hdst⟩ := h
    obtain ⟨v, hv, hr⟩ := J.done j o t sv hj hdst (hall j (Array.getElem?_eq_some_iff.1 hj).1) ht
    exact ⟨v, by simpa using hv, hr⟩
  · have hk := F.keep (i := 0) (k := ops.size) (t := t) (by omega) (fun j o _ _ hj hdst => h ⟨j, o, hj, hdst⟩)
    simp only [Nat.zero_add] at hk
    rw [hk] at ht
    obtain ⟨v, hv, hr⟩ := J.todo t sv (fun j o hj hdst => absurd ⟨j, o, hj, hdst⟩ h) ht
    exact ⟨v, by simpa using hv, hr⟩

set_option maxHeartbeats 2000000 in
theorem Jn.any {ρ0 : Rho} {Q : Exit → Act → World → Prop} (hQ : ∀ ρ a w, Ext ρ0 ρ → StRel B w0 ρ (st ops.size) a w → Q .normal a w) : ∀ (fuel : Nat) (L : Array Bool) (ρ : Rho) (a : Act) (w : World), Jn B w0 ops acc st ρ0 L ρ a w →
    cnt (fun j => L.getD j false) ops.size ≤ fuel → wpAny P .any ops Q fuel L a w := by
  have back : ∀ k o, ops[k]? = some o → ∀ e ∈ o.after, Region.binds .any e = true → e.on < k := fun k o hk e he hb => by
    have := (hangs_spec (D := fun _ => True) hh rfl (fun _ _ _ h => by simp at h) (fun _ _ _ _ _ _ _ => trivial) k o (by simpa using hk)).1 e he hb
    simpa using this
  have fin : ∀ (L : Array Bool) (ρ : Rho) (a : Act) (w : World), Jn B w0 ops acc st ρ0 L ρ a w → (∀ j, j < ops.size → L.getD j false = true) → Q .normal a w := fun L ρ a w J hall => hQ ρ a w J.ext (J.last F h0 hall)
  have gtrue : ∀ (L : Array Bool) (j : Nat), L.size = ops.size → j < ops.size → L.getD j true = L.getD j false := fun L j hl hj => by
    have : j < L.size := by omega
    simp [Array.getD, this]
  intro fuel
  induction fuel with
  | zero =>
    intro L ρ a w J hc
    have hall := cnt_zero (L := fun j => L.getD j false) (n := ops.size) (by omega)
    refine ⟨?_, fin L ρ a w J hall⟩
    cases hr : Region.ready .any ops L with
    | nil => rfl
    | cons j js =>
      have hj : j ∈ Region.ready .any ops L := by rw [hr]; simp
      obtain ⟨h1, o, ho, _⟩ := mem_ready.1 hj
      have hlt := (Array.getElem?_eq_some_iff.1 ho).1
      rw [gtrue L j J.size hlt] at h1
      have h2 := hall j hlt
      rw [show L.getD j false = true from h2] at h1
      exact Bool.noConfusion h1
  | succ fuel ih =>
    intro L ρ a w J hc
    refine ⟨fun hr => fin L ρ a w J ?_, fun i hi => ?_⟩
    · have key : ∀ n j, j < n → j < ops.size → L.getD j false = true := by
        intro n
        induction n with
        | zero => intro j hj; omega
        | succ n ihn =>
          intro j hj hjs
          cases hL : L.getD j false with
          | true => rfl
          | false =>
            exfalso
            have hmem : j ∈ Region.ready .any ops L := mem_ready.2 ⟨by rw [gtrue L j J.size hjs]; exact hL, _, Array.getElem?_eq_getElem hjs, fun e he hb => by
              have := back j _ (Array.getElem?_eq_getElem hjs) e he hb
              exact ihn e.on (by omega) (by omega)⟩
            rw [hr] at hmem
            cases hmem
      exact fun j hj => key ops.size j hj hj
    · obtain ⟨h1, o, ho, hpre⟩ := mem_ready.1 hi
      have hlt := (Array.getElem?_eq_some_iff.1 ho).1
      rw [gtrue L i J.size hlt] at h1
      have hiL : i < L.size := by rw [J.size]; exact hlt
      have hcnt : cnt (fun j => (L.setIfInBounds i true).getD j false) ops.size ≤ fuel := by
        have := cnt_set (L := fun j => L.getD j false) (L' := fun j => (L.setIfInBounds i true).getD j false) (i := i) h1 (by show (L.setIfInBounds i true).getD i false = true; rw [getD_set hiL, if_pos rfl]) (fun j hj => by show (L.setIfInBounds i true).getD j false = L.getD j false; rw [getD_set hiL, if_neg hj]) hlt
        omega
      have closed : ∀ {D : Nat → Prop}, (∀ k o, ops[k]? = some o → D k → ∀ e ∈ o.after, Region.binds .any e = true → D e.on) → ∀ {k m j : Nat}, (masks [] ops.toList).getD k 0 = m → D k → m.testBit j = true → D j := by
        intro D hD k m j hk hDk hm
        have hin := masks_in (D := D) (l := ops.toList) (acc := []) (fun _ _ _ h => by simp at h) (fun k o hk hd => hD k o (by simpa using hk) (by simpa using hd))
        cases hq : (masks [] ops.toList)[k]? with
        | none => simp [List.getD, hq] at hk; subst hk; simp at hm
        | some q => simp [List.getD, hq] at hk; subst hk; exact hin k q j hq hDk hm
      -- what the i-th looks at
      have slots : ∀ t ∈ Oper.looksAt ops o, ∀ sv, (st i).T[t]? = some sv → ∃ v, a.tmps[t]? = some v ∧ VRel ρ sv v := by
        intro t ht sv hs
        classical
        by_cases h : ∃ (j : Nat) (o' : Oper), ops[j]? = some o' ∧ o'.dst = some t
        · obtain ⟨j, o', hj, hdst⟩ := h
          have hsp := (hangs_spec (D := fun j => j = i ∨ L.getD j false = true) hh rfl (fun _ _ _ h => by simp at h) (fun k o2 hk hD e he hb => by
            have hk' : ops[k]? = some o2 := by simpa using hk
            simp only [Nat.zero_add] at hD
            rcases hD with rfl | hD
            · rw [ho] at hk'; cases hk'; exact .inr (hpre e he hb)
            · exact .inr (J.down k o2 hk' hD e he hb)) i o (by simpa using ho)).2 (fun e he hb => .inr (hpre e he hb)) j t (by simp [hj, hdst]) ht
          simp only [Nat.zero_add] at hsp
          have uniq : ∀ k o2, ops[k]? = some o2 → o2.dst = some t → k = j := fun k o2 hk hk2 => apartD_spec hd k j t (by simp [hk, hk2]) (by simp [hj, hdst])
          rcases hsp with hsp | ⟨hij, hbit⟩
          case inr =>
            have hLj : L.getD j false = false := by
              cases hq : L.getD j false with
              | false => rfl
              | true =>
                have hD := closed (D := fun k => L.getD k false = true) J.down rfl hq hbit
                rw [h1] at hD
                exact Bool.noConfusion hD
            have hk := F.keep (i := 0) (k := i) (t := t) (by omega) (fun j' o' _ hlt' hj' hdst' => by have := uniq j' o' hj' hdst'; omega)
            simp only [Nat.zero_add] at hk
            exact J.todo t sv (fun j' o' hj' hdst' => by rw [uniq j' o' hj' hdst']; exact hLj) (by rw [← hk]; exact hs)
          have hLj : L.getD j false = true := by
            rcases hsp.2 with e | e
            · omega
            · exact e
          have hk1 := F.keep (i := j + 1) (k := i - (j + 1)) (t := t) (by omega) (fun k o2 a1 a2 hk hk2 => by have := uniq k o2 hk hk2; omega)
          have hk2 := F.keep (i := j + 1) (k := ops.size - (j + 1)) (t := t) (by omega) (fun k o2 a1 a2 hk hk2 => by have := uniq k o2 hk hk2; omega)
          rw [show j + 1 + (i - (j + 1)) = i by omega] at hk1
          rw [show j + 1 + (ops.size - (j + 1)) = ops.size by omega] at hk2
          exact J.done j o' t sv hj hdst hLj (by rw [hk2, ← hk1]; exact hs)
        · have hk := F.keep (i := 0) (k := i) (t := t) (by omega) (fun j o' _ _ hj hdst => h ⟨j, o', hj, hdst⟩)
          simp only [Nat.zero_add] at hk
          exact J.todo t sv (fun j o' hj hdst => absurd ⟨j, o', hj, hdst⟩ h) (by rw [← hk]; exact hs)
      obtain ⟨b, hw, hno, hyes⟩ := F.one i o ho
      have hwant : Region.wanted o (yielded ops a.tmps) = b := by
        unfold wantS at hw
        unfold Region.wanted
        split at hw
        · rename_i hg; simp at hw; simp [hg, hw]
        · rename_i j want hg
          simp only [hg]
          split at hw
          · simp at hw
          · rename_i d hdj
            have hdl : d ∈ Oper.looksAt ops o := by unfold Oper.looksAt; rw [hg]; simp [hdj]
            unfold yielded
            simp only [hdj, Option.bind_some]
            split at hw
            · rename_i c hT
              obtain ⟨v, hv, hr⟩ := slots d hdl _ hT
              have e : v = .bool c := hr.1
              simp at hw
              simp [hv, e, ← hw]
            · rename_i hT
              obtain ⟨v, hv, vs, e, hr⟩ := slots d hdl _ hT
              simp at hw
              simp [hv, e, ← hw]
            · simp at hw
      -- stores and other accesses of the same block never change places
      have downL : ∀ k o, ops[k]? = some o → L.getD k false = true → ∀ e ∈ o.after, Region.binds .any e = true → L.getD e.on false = true := J.down
      have downI : ∀ k o, ops[k]? = some o → (k = i ∨ L.getD k false = true) → ∀ e ∈ o.after, Region.binds .any e = true → (e.on = i ∨ L.getD e.on false = true) := fun k o2 hk hD e he hb => by
        rcases hD with rfl | hD
        · rw [ho] at hk; cases hk; exact .inr (hpre e he hb)
        · exact .inr (J.down k o2 hk hD e he hb)
      have stLt : ∀ s n, StoreAt ops acc s n → s < ops.size := fun s n ⟨o, h, _⟩ => (Array.getElem?_eq_some_iff.1 h).1
      -- a store behind the i-th, into the block that the i-th touches, is not done yet
      have later : ∀ n s, acc i = some n → StoreAt ops acc s n → i < s → L.getD s false = false := fun n s ha hs hlt' => by
        cases hq : L.getD s false with
        | false => rfl
        | true =>
          have hD := closed (D := fun k => L.getD k false = true) downL rfl hq ((hst s i n hs hlt ha).1 hlt')
          rw [h1] at hD
          exact Bool.noConfusion hD
      have earlier : ∀ n s, acc i = some n → StoreAt ops acc s n → s < i → L.getD s false = true := fun n s ha hs hlt' => by
        rcases closed (D := fun k => k = i ∨ L.getD k false = true) downI rfl (.inl rfl) ((hst s i n hs hlt ha).2 hlt') with h | h
        · omega
        · exact h
      obtain ⟨v, hv1, hv2, hv3, hv4⟩ := J.mem
      have iAcc : ∀ n, acc i = some n → i ≤ v n ∧ NoSt ops acc n (i + 1) (v n) := by
        intro n ha
        have hle : i ≤ v n := by
          rcases Nat.lt_or_ge (v n) i with hlt' | hge
          · obtain ⟨hs, hL⟩ := hv2 n (by omega)
            rw [earlier n _ ha hs hlt'] at hL
            exact Bool.noConfusion hL
          · exact hge
        refine ⟨hle, fun s hs1 hs2 hs => ?_⟩
        have := later n s ha hs (by omega)
        rw [hv3 n s hs2 hs] at this
        exact Bool.noConfusion this
      have notSt : ∀ n, isSt o = false → v n ≠ i := fun n hs h => by
        obtain ⟨⟨o', ho', hs', _⟩, _⟩ := hv2 n (by omega)
        rw [h, ho] at ho'
        cases ho'
        rw [hs] at hs'
        exact Bool.noConfusion hs'
      have noAcc : acc i = none → ∀ n, v n ≠ i := fun hs n h => by
        obtain ⟨⟨o', ho', _, ha⟩, _⟩ := hv2 n (by omega)
        rw [h, hs] at ha
        cases ha
      -- where the i-th is no store that is due, memory is told by the same numbers
      have sameV : (∀ n, v n ≠ i) → ∀ {ρ' : Rho} {w' : World}, (∀ n b, find (st (v n)).H n = some b → BRel B ρ' w' n b) → Mem B ops acc st (L.setIfInBounds i true) ρ' w' := by
        intro hne ρ' w' hm'
        refine ⟨v, hv1, fun n hn => ?_, fun n j hj hs => ?_, hm'⟩
        · obtain ⟨q1, q2⟩ := hv2 n hn
          exact ⟨q1, by rw [getD_set hiL, if_neg (hne n)]; exact q2⟩
        · rw [getD_set hiL]
          split
          · rfl
          · exact hv3 n j hj hs
      have hBw : B ≤ w.heap.size := Nat.le_trans hB J.below.size
      unfold wpOp
      simp only [ho, hwant]
      cases b with
      | false =>
        simp only [Bool.false_eq_true, if_false]
        obtain ⟨hno, hna⟩ := hno rfl
        have hT : (st (i + 1)).T = putT (st i).T o.dst undefS := by rw [hno]
        exact ih _ ρ _ w (J.next F hd ho hpre hT undef_rel (Ext.refl ρ) J.nam (sameV (noAcc hna) hv4) J.below fun m hm _ => hm) hcnt
      | true =>
        simp only [if_true]
        obtain ⟨hacc, v', hT, hH, hstep⟩ := hyes rfl
        have hops : ∀ x ∈ o.op.operands, ∀ sv, lookT (st i).T x = some sv → VRel ρ sv (a.eval x) := by
          intro x hx sv hl
          cases x with
          | tmp t =>
            simp only [lookT] at hl
            obtain ⟨v, hv, hr⟩ := slots t (by unfold Oper.looksAt; exact List.mem_append_left _ (List.mem_filterMap.2 ⟨.tmp t, by simpa using hx, rfl⟩)) sv hl
            have e : a.eval (.tmp t) = v := getD_of hv
            rw [e]
            exact hr
          | const c => exact ofConst_rel hl
          | global g => simp [lookT] at hl
          | func f => simp [lookT] at hl; subst hl; exact ⟨[], trivial, rfl⟩
        have hblk : ∀ n b, accOf (lookT (st i).T) (st i).nx o = some n → find (st i).H n = some b → BRel B ρ w n b := by
          intro n b ha hf
          rw [← hacc] at ha
          obtain ⟨hle, hns⟩ := iAcc n ha
          refine hv4 n b ?_
          refine F.heap h0 hle (hv1 n) (fun s hs1 hs2 hs => ?_) hf
          by_cases e : s = i
          · subst e
            have := hv3 n s hs2 hs
            rw [h1] at this
            exact Bool.noConfusion this
          · exact hns s (by omega) hs2 hs
        refine .inl (hstep hops J.nam hblk J.below (fun hs x w' hv hb' hH' hnx => ?_) (fun hs x cs t vs ha hH' hnx hcs hv => ?_) fun hs x w' n ha hv hbn hoth hsz hb' hnx => ?_)
        · exact ih _ ρ _ w' (J.next F hd ho hpre hT hv (Ext.refl ρ) (J.nam.below hb'.size) (sameV (fun n => notSt n hs) fun n b hf => (hv4 n b hf).below J.nam hb') (J.below.trans (hb'.mono hBw)) fun m hm _ => hm) hcnt
        · have hn : ρ (st i).nx = none := J.fr i hlt h1 (by omega)
          rw [← hacc] at ha
          obtain ⟨hle, hns⟩ := iAcc _ ha
          have hne := notSt (st i).nx hs
          have hfind : find (st (i + 1)).H (st i).nx = some ⟨cs, t, true⟩ := by
            rw [hH']
            simp only [find]
            rw [if_pos (Nat.beq_refl _)]
          have hfind' := F.heap h0 (n := (st i).nx) (i := i + 1) (k := v (st i).nx) (by omega) (hv1 _) hns hfind
          refine ih _ (newRho ρ (st i).nx w.heap.size) _ _ (J.next F hd ho hpre hT (hv hn) (newRho_ext hn) (J.nam.alloc _) (sameV (fun n => notSt n hs) fun n b hf => ?_) (J.below.alloc hBw _) fun m hm hne => ?_) hcnt
          · by_cases e : n = (st i).nx
            · subst e
              rw [hfind'] at hf
              cases hf
              exact BRel.alloc_new hn hBw hcs
            · exact (hv4 n b hf).alloc_old J.nam hn e _
          · simp only [newRho]
            rw [if_neg (hne (by omega))]
            exact hm
        · rw [← hacc] at ha
          obtain ⟨hle, hns⟩ := iAcc n ha
          have hvi : v n = i := by
            rcases Nat.lt_or_ge i (v n) with hlt' | hge
            · have := hv3 n i hlt' ⟨o, ho, hs, ha⟩
              rw [h1] at this
              exact Bool.noConfusion this
            · omega
          -- the next store into the block
          have least : ∀ k, ∃ e', i + 1 ≤ e' ∧ e' ≤ i + 1 + k ∧ NoSt ops acc n (i + 1) e' ∧ (e' < i + 1 + k → StoreAt ops acc e' n) := by
            intro k
            induction k with
            | zero => exact ⟨i + 1, by omega, by omega, fun j h1 h2 => by omega, fun h => by omega⟩
            | succ k ihk =>
              obtain ⟨e', a1, a2, a3, a4⟩ := ihk
              rcases Nat.lt_or_ge e' (i + 1 + k) with hlt' | hge
              · exact ⟨e', a1, by omega, a3, fun _ => a4 hlt'⟩
              · classical
                by_cases hse : StoreAt ops acc e' n
                · exact ⟨e', a1, by omega, a3, fun _ => hse⟩
                · exact ⟨e' + 1, by omega, by omega, fun j h1 h2 hj => by
                    rcases Nat.lt_or_ge j e' with h | h
                    · exact a3 j h1 h hj
                    · rw [show j = e' by omega] at hj; exact hse hj, fun h => by omega⟩
          obtain ⟨e', a1, a2, a3, a4⟩ := least (ops.size - (i + 1))
          rw [show i + 1 + (ops.size - (i + 1)) = ops.size by omega] at a2 a4
          have hvm : ∀ m, m ≠ n → v m ≠ i := fun m hm hvi' => by
            obtain ⟨⟨_, _, _, ha'⟩, _⟩ := hv2 m (by omega)
            rw [hvi', ha] at ha'
            cases ha'
            exact hm rfl
          refine ih _ ρ _ w' (J.next F hd ho hpre hT hv (Ext.refl ρ) (J.nam.below (by omega)) ?_ (J.below.trans hb') fun m hm _ => hm) hcnt
          obtain ⟨v', hvn, hvo⟩ : ∃ v' : Nat → Nat, v' n = e' ∧ ∀ m, m ≠ n → v' m = v m := ⟨fun m => if m = n then e' else v m, by simp, fun m hm => by simp [hm]⟩
          refine ⟨v', fun m => ?_, fun m hm => ?_, fun m j hj hsj => ?_, fun m b hf => ?_⟩
          · by_cases e : m = n
            · rw [e, hvn]; exact a2
            · rw [hvo m e]; exact hv1 m
          · by_cases e : m = n
            · subst e
              rw [hvn] at hm ⊢
              have hse := a4 hm
              refine ⟨hse, ?_⟩
              rw [getD_set hiL, if_neg (by omega)]
              exact later m e' ha hse (by omega)
            · rw [hvo m e] at hm ⊢
              obtain ⟨q1, q2⟩ := hv2 m hm
              exact ⟨q1, by rw [getD_set hiL, if_neg (hvm m e)]; exact q2⟩
          · rw [getD_set hiL]
            split
            · rfl
            · rename_i hji
              by_cases e : m = n
              · subst e
                rw [hvn] at hj
                rcases Nat.lt_or_ge j i with h | h
                · exact hv3 m j (by omega) hsj
                · exact absurd hsj (a3 j (by omega) hj)
              · rw [hvo m e] at hj
                exact hv3 m j hj hsj
          · by_cases e : m = n
            · subst e
              rw [hvn] at hf
              intro y hy
              have hlt2 : m < (st (i + 1)).nx := by
                rw [hnx]
                rcases hH with ⟨hs2, _⟩ | ⟨hs2, _⟩ | ⟨_, _, m', cs', ha', ⟨b0, hb0⟩, _⟩
                · rw [hs] at hs2; exact Bool.noConfusion hs2
                · rw [hs] at hs2; exact Bool.noConfusion hs2
                · rw [← hacc, ha] at ha'
                  cases ha'
                  exact F.names h0 (i := i) (by omega) m b0 hb0
              exact hbn b (F.back (n := m) a1 a2 a3 hlt2 hf) y hy
            · rw [hvo m e] at hf
              intro y hy
              obtain ⟨q1, vs, q2, q3⟩ := hv4 m b hf y hy
              exact ⟨q1, vs, by rw [hoth m y e hy]; exact q2, q3⟩
end

theorem draw_sound {P : Program} {I : World → Prop} {rec : Rec} {B : Nat} {w0 : World} (hB : B ≤ w0.heap.size) (hI : ∀ w, Below B w0 w → I w) {M : MemS} (hM : MemOK P I M) {S : List Sum} (hS : ∀ c ∈ S, SumOK P I c) {ops : Array Oper} {id : Nat} (hok : drawOK M P S ops = true) {s s' : St} {as : List (Option Nat)}
    (h : (evD M rec P S ops 0 ops.toList s []).den = some (s', as)) (hacc : accAll (masks [] ops.toList) as 0 ops.toList as = true)
    {ρ : Rho} {a : Act} {w : World} (hs : StRel B w0 ρ s a w) {Q : Exit → Act → World → Prop} (hQ : ∀ ρ' a' w', Ext ρ ρ' → StRel B w0 ρ' s' a' w' → Q .normal a' w') : (Code.region id ops true).wp P Q a w := by
  simp only [drawOK, Bool.and_eq_true] at hok
  obtain ⟨⟨⟨hmix, hall⟩, hd⟩, hh⟩ := hok
  obtain ⟨st, acc, bs, e0, en, eas, elen, ebs, ht⟩ := trace_of (P := P) (rec := rec) (S := S) ops.toList 0 h
  simp only [Nat.zero_add, Array.length_toList] at en elen ebs
  rw [List.nil_append] at eas
  subst eas
  have F : Facts B w0 P ops st acc := by
    refine ⟨fun i o ho => ?_⟩
    have hoL : ops.toList[i]? = some o := by simpa using ho
    obtain ⟨b, h1, h2, h3⟩ := ht.step i o hoL
    simp only [Nat.zero_add] at h1 h2 h3
    refine ⟨b, h1, h2, fun hb => ?_⟩
    have hal := List.all_eq_true.1 hall o (List.mem_of_getElem? hoL)
    obtain ⟨q1, q2⟩ := h3 hb
    exact ⟨q2, oneStep hI hM hS hal q1⟩
  have hst : ∀ s j n, StoreAt ops acc s n → j < ops.size → acc j = some n → (j < s → ((masks [] ops.toList).getD s 0).testBit j = true) ∧ (s < j → ((masks [] ops.toList).getD j 0).testBit s = true) := by
    intro s j n ⟨o, ho, hso, hn⟩ hj hjn
    have hs' : s < ops.size := (Array.getElem?_eq_some_iff.1 ho).1
    have hrow := accAll_spec hacc s o n (by simpa using ho) (by rw [ebs s hs', hn]) hso
    rw [Nat.zero_add] at hrow
    have := accRow_spec hrow j (by rw [ebs j hj, hjn])
    simpa using this
  subst e0 en
  refine wp_region_any hmix ?_
  refine Jn.any hB F hd hh hst hs.names (ρ0 := ρ) hQ ops.size _ ρ a _ ⟨Ext.refl ρ, by simp, fun k o hk hL => ?_, ?_, fun j o t sv hj hdst hL => ?_, fun t sv hn ht => ?_, ⟨hs.mem.lt, hs.mem.inj⟩, ?_, ⟨hs.below.os, hs.below.tape, hs.below.output, hs.below.size, hs.below.block⟩, hs.defers, fun j hj hL hlt => ?_, fun m hm => ?_⟩ (cnt_le _ _)
  · simp [Array.getD] at hL
  · have := hs.tmps.length; simpa using this.symm
  · simp [Array.getD] at hL
  · obtain ⟨v, hv, hr⟩ := hs.tmps.get ht
    exact ⟨v, by simpa using hv, hr⟩
  · have least : ∀ m n, ∃ e', e' ≤ n ∧ NoSt ops acc m 0 e' ∧ (e' < n → StoreAt ops acc e' m) := by
      intro m n
      induction n with
      | zero => exact ⟨0, Nat.le_refl _, fun j h1 h2 => by omega, fun h => by omega⟩
      | succ n ihn =>
        obtain ⟨e', a1, a3, a4⟩ := ihn
        rcases Nat.lt_or_ge e' n with hlt' | hge
        · exact ⟨e', by omega, a3, fun _ => a4 hlt'⟩
        · classical
          by_cases hse : StoreAt ops acc e' m
          · exact ⟨e', by omega, a3, fun _ => hse⟩
          · exact ⟨e' + 1, by omega, fun j h1 h2 hj => by
              rcases Nat.lt_or_ge j e' with h | h
              · exact a3 j h1 h hj
              · rw [show j = e' by omega] at hj; exact hse hj, fun h => by omega⟩
    refine ⟨fun m => (least m ops.size).choose, fun m => (least m ops.size).choose_spec.1, fun m hm => ⟨(least m ops.size).choose_spec.2.2 hm, by simp [Array.getD]⟩, fun m j hj hsj => absurd hsj ((least m ops.size).choose_spec.2.1 j (by omega) hj), fun m b hb x hx => ?_⟩
    have hlt : m < (st 0).nx := by
      rcases Nat.lt_or_ge m (st 0).nx with h | h
      · exact h
      · rw [hs.fresh m h] at hx; cases hx
    exact hs.mem.blk m b x (F.back (n := m) (Nat.zero_le _) (least m ops.size).choose_spec.1 (least m ops.size).choose_spec.2.1 hlt hb) hx
  · refine hs.fresh _ ?_
    have := F.nx_mono (i := 0) (k := j) (by omega) (by omega)
    omega
  · refine hs.fresh _ ?_
    have := F.nx_mono (i := 0) (k := ops.size) (by omega) (Nat.le_refl _)
    omega
end Go.Proofs.YtjgmipklbpghfaaDoor

/- The symbolic evaluator is sound: a function whose evaluation ends well meets the contract that it spells. No condition. -/
namespace Go.Proofs.YtjgmipklbpghfaaDoor
open Go.RowKit

/-- A loop that ends within m rounds. -/
def LoopOK (P : Program) (I : World → Prop) (m : Nat) (rec : Rec) : Prop :=
  ∀ c1 s x s', (rec (.loop c1) s).den = some (x, s') → ∀ (B : Nat) (w0 : World) (ρ : Rho) (a : Act) (w : World) (Q : Exit → Act → World → Prop), B ≤ w0.heap.size → (∀ w, Below B w0 w → I w) → StRel B w0 ρ s a w →
    (∀ ρ' a' w', Ext ρ ρ' → StRel B w0 ρ' s' a' w' → Q x.to a' w') → Code.rounds P c1 Q m a w

section
variable {P : Program} {I : World → Prop} {M : MemS} (hM : MemOK P I M) {S : List Sum} (hS : ∀ c ∈ S, SumOK P I c)

theorem loop_sound {rec : Rec} {m : Nat} (hrec : RecOK P I rec) (hl : LoopOK P I m rec) : LoopOK P I (m + 1) (stepC M P S rec) := by
  intro c1 s x s' h B w0 ρ a w Q hB hI hs hQ
  simp only [stepC] at h
  obtain ⟨⟨x1, s1⟩, h1, h2⟩ := den_bind_some h
  rw [rounds_succ]
  refine hrec c1 s x1 s1 h1 B w0 ρ a w _ hB hI hs fun ρ1 a1 w1 hx hs1 => ?_
  cases x1 with
  | normal => exact hl c1 s1 x s' h2 B w0 ρ1 a1 w1 Q hB hI hs1 fun ρ2 a2 w2 hx2 hs2 => hQ ρ2 a2 w2 (hx.trans hx2) hs2
  | exit id =>
    simp [Tree.den] at h2
    obtain ⟨rfl, rfl⟩ := h2
    exact hQ ρ1 a1 w1 hx hs1
  | ret =>
    simp [Tree.den] at h2
    obtain ⟨rfl, rfl⟩ := h2
    exact hQ ρ1 a1 w1 hx hs1

include hM hS in
theorem stepC_sound {rec : Rec} {m : Nat} (hrec : RecOK P I rec) (hl : LoopOK P I m rec) : RecOK P I (stepC M P S rec) := by
  intro c s x s' h B w0 ρ a w Q hB hI hs hQ
  unfold stepC at h
  split at h
  · simp [Tree.den] at h
    obtain ⟨rfl, rfl⟩ := h
    exact wp_skip (hQ ρ a w (Ext.refl ρ) hs)
  · simp [Tree.den] at h
    obtain ⟨rfl, rfl⟩ := h
    exact wp_label (hQ ρ a w (Ext.refl ρ) hs)
  · rename_i id ops draw
    split at h
    · rename_i hdr
      subst hdr
      split at h
      · rename_i hok
        obtain ⟨⟨s1, as⟩, h1, h2⟩ := den_bind_some h
        simp only at h2
        split at h2
        · rename_i hacc
          simp [Tree.den] at h2
          obtain ⟨rfl, rfl⟩ := h2
          exact draw_sound hB hI hM hS hok h1 hacc hs hQ
        · simp [Tree.den] at h2
      · simp [Tree.den] at h
    · rename_i hdr
      obtain ⟨s1, h1, h2⟩ := den_bind_some h
      simp [Tree.den] at h2
      obtain ⟨rfl, rfl⟩ := h2
      have : draw = false := by simpa using hdr
      subst this
      exact wp_region_list (evOps_sound hrec hB hI hM hS ops.toList 0 h1 hs hQ)
  · rename_i c1 c2
    obtain ⟨⟨x1, s1⟩, h1, h2⟩ := den_bind_some h
    refine wp_seq (hrec c1 s x1 s1 h1 B w0 ρ a w _ hB hI hs fun ρ1 a1 w1 hx hs1 => ?_)
    cases x1 with
    | normal => exact hrec c2 s1 x s' h2 B w0 ρ1 a1 w1 Q hB hI hs1 fun ρ2 a2 w2 hx2 hs2 => hQ ρ2 a2 w2 (hx.trans hx2) hs2
    | exit id =>
      simp [Tree.den] at h2
      obtain ⟨rfl, rfl⟩ := h2
      exact hQ ρ1 a1 w1 hx hs1
    | ret =>
      simp [Tree.den] at h2
      obtain ⟨rfl, rfl⟩ := h2
      exact hQ ρ1 a1 w1 hx hs1
  · rename_i c c1 c2
    have hg := lookT_rel hs.tmps c
    split at h
    · rename_i hc
      have e : a.eval c = .bool true := (hg _ hc).1
      exact wp_cond_true e (hrec c1 s x s' h B w0 ρ a w Q hB hI hs hQ)
    · rename_i hc
      have e : a.eval c = .bool false := (hg _ hc).1
      exact wp_cond_false e (hrec c2 s x s' h B w0 ρ a w Q hB hI hs hQ)
    · rename_i y _ _ hc
      split at h
      · rename_i hk
        obtain ⟨b, e, db⟩ := erel_bool (ρ := ρ) (hg _ hc) hk
        simp only [Tree.den, db, tru] at h
        have hst : ∀ b', a.eval c = .bool b' → StRel B w0 ρ { s with T := refT s.T c b' } a w := fun b' e' => by
          refine ⟨?_, hs.mem, hs.below, hs.fresh, hs.names, hs.defers⟩
          cases c with
          | tmp t =>
            obtain ⟨v, hv, hr⟩ := hs.tmps.get (show s.T[t]? = some _ from hc)
            have ev : v = .bool b' := by
              have : a.eval (.tmp t) = v := getD_of (by simpa using hv)
              rw [← this]
              exact e'
            have hset := hs.tmps.set (c := .p (.c (.e (.lit (.bool b'))))) (v := v) t (by rw [ev]; exact ⟨rfl, .b, rfl, _, rfl⟩)
            have hid : a.tmps.toList.set t v = a.tmps.toList := by
              apply List.ext_getElem?
              intro j
              by_cases e2 : t = j
              · subst e2
                have hl : t < a.tmps.toList.length := by
                  rcases Nat.lt_or_ge t a.tmps.toList.length with h | h
                  · exact h
                  · rw [List.getElem?_eq_none h] at hv; simp at hv
                rw [List.getElem?_set_self hl, hv]
              · rw [List.getElem?_set_ne e2]
            rw [hid] at hset
            exact hset
          | const v => exact hs.tmps
          | global g => exact hs.tmps
          | func f => exact hs.tmps
        cases b with
        | true => exact wp_cond_true e (hrec c1 _ x s' h B w0 ρ a w Q hB hI (hst true e) hQ)
        | false => exact wp_cond_false e (hrec c2 _ x s' h B w0 ρ a w Q hB hI (hst false e) hQ)
      · simp [Tree.den] at h
    · simp [Tree.den] at h
  · rename_i id c1
    obtain ⟨⟨x1, s1⟩, h1, h2⟩ := den_bind_some h
    refine wp_block (hrec c1 s x1 s1 h1 B w0 ρ a w _ hB hI hs fun ρ1 a1 w1 hx hs1 => ?_)
    cases x1 with
    | normal =>
      simp [Tree.den] at h2
      obtain ⟨rfl, rfl⟩ := h2
      exact hQ ρ1 a1 w1 hx hs1
    | exit id' =>
      simp only at h2
      split at h2
      · rename_i hb
        have hb := beq_len hb
        subst hb
        simp [Tree.den] at h2
        obtain ⟨rfl, rfl⟩ := h2
        show (if id' = id' then Q .normal a1 w1 else Q (.exit id') a1 w1)
        rw [if_pos rfl]
        exact hQ ρ1 a1 w1 hx hs1
      · rename_i hb
        simp [Tree.den] at h2
        obtain ⟨rfl, rfl⟩ := h2
        show (if id' = id then Q .normal a1 w1 else Q (.exit id') a1 w1)
        rw [if_neg (fun e => by subst e; exact hb (Nat.beq_refl _))]
        exact hQ ρ1 a1 w1 hx hs1
    | ret =>
      simp [Tree.den] at h2
      obtain ⟨rfl, rfl⟩ := h2
      exact hQ ρ1 a1 w1 hx hs1
  · rename_i c1
    exact wp_loop_rounds (m + 1) (loop_sound (M := M) (S := S) hrec hl c1 s x s' h B w0 ρ a w Q hB hI hs hQ)
  · rename_i id
    simp [Tree.den] at h
    obtain ⟨rfl, rfl⟩ := h
    exact wp_exit (hQ ρ a w (Ext.refl ρ) hs)
  · rename_i c1
    refine wp_scope_straight (hrec c1 s x s' h B w0 ρ a w _ hB hI hs fun ρ1 a1 w1 hx hs1 => ?_)
    have := hQ ρ1 a1 w1 hx hs1
    cases x <;> exact this
  · simp [Tree.den] at h
    obtain ⟨rfl, rfl⟩ := h
    exact wp_ret (hQ ρ a w (Ext.refl ρ) hs)
  · simp [Tree.den] at h

include hM hS in
theorem ev_sound (n : Nat) : RecOK P I (ev M P S n) ∧ LoopOK P I n (ev M P S n) := by
  induction n with
  | zero => exact ⟨fun c s x s' h => by simp [ev, Tree.den] at h, fun c s x s' h => by simp [ev, Tree.den] at h⟩
  | succ n ih => exact ⟨stepC_sound hM hS ih.1 ih.2, loop_sound (M := M) ih.1 ih.2⟩
end

/-! The contract that an evaluation spells. -/
theorem good_den {r : RS} : ∀ {t : Tree SV}, t.good r = true → t.ok = true → ∃ v, t.den = some v ∧ fitR r v = true ∧ t.outL = v.leaves
  | .ret v, h, _ => ⟨v, rfl, h, rfl⟩
  | .ite c t f, h, k => by
    simp only [Tree.good, Bool.and_eq_true] at h
    simp only [Tree.ok] at k
    simp only [Tree.den, Tree.outL]
    cases hc : tru c.den with
    | true => rw [hc] at k; exact good_den h.1 k
    | false => rw [hc] at k; exact good_den h.2 k
  | .fail, _, k => by simp [Tree.ok] at k

section
variable {ρ : Rho}
theorem fitC_spec : ∀ {κs : List SK} {cs : List SC} {vs : List Value}, fitC κs cs = true → CsRel ρ cs vs → vs = leafs cs ∧ KindsL κs vs
  | [], [], vs, _, hr => by
    cases vs with
    | nil => exact ⟨rfl, rfl⟩
    | cons v vs => exact hr.elim
  | [], _ :: _, _, h, _ => by simp [fitC] at h
  | κ :: κs, [], _, h, _ => by simp [fitC] at h
  | κ :: κs, c :: cs, vs, h, hr => by
    cases c with
    | e x =>
      simp only [fitC, Bool.and_eq_true] at h
      cases vs with
      | nil => exact hr.elim
      | cons v vs =>
        obtain ⟨⟨hd, κ2, hk2, hi⟩, hr⟩ := hr
        obtain ⟨e2, k2⟩ := fitC_spec h.2 hr
        have h1 := h.1
        rw [hk2] at h1
        have e := eqSK_eq h1
        subst e
        exact ⟨by simp [leafs, SC.leaf, hd, ← e2], v, vs, rfl, hi, k2⟩
    | p b off => simp [fitC] at h
    | fn f caps => simp [fitC] at h
    | sl b off len cap => simp [fitC] at h
theorem fitP_spec {p : PS} {x : SP} {v : Value} (h : fitP p x = true) (hr : PRel ρ x v) : KindsL p.kinds x.leaves ∧ ∀ rest, p.pack (x.leaves ++ rest) = v := by
  cases p with
  | c κ =>
    cases x with
    | c x =>
      obtain ⟨e, k⟩ := fitC_spec (ρ := ρ) (vs := [v]) h ⟨hr, trivial⟩
      simp [leafs] at e
      refine ⟨?_, fun rest => e.symm⟩
      rw [e] at k
      exact k
    | agg cs => simp [fitP] at h
  | agg κs =>
    cases x with
    | c x => simp [fitP] at h
    | agg cs =>
      obtain ⟨vs, rfl, k⟩ := hr
      obtain ⟨e, k⟩ := fitC_spec (ρ := ρ) h k
      subst e
      refine ⟨k, fun rest => ?_⟩
      simp only [PS.pack, SP.leaves]
      rw [List.take_left' k.length]
theorem fitL_spec : ∀ {ps : List PS} {xs : List SP} {vs : List Value}, fitL ps xs = true → PsRel ρ xs vs → KindsL (kindsL ps) (leavesL xs) ∧ packL ps (leavesL xs) = vs
  | [], [], vs, _, hr => by
    cases vs with
    | nil => exact ⟨rfl, rfl⟩
    | cons v vs => exact hr.elim
  | [], _ :: _, _, h, _ => by simp [fitL] at h
  | _ :: _, [], _, h, _ => by simp [fitL] at h
  | p :: ps, x :: xs, vs, h, hr => by
    simp only [fitL, Bool.and_eq_true] at h
    cases vs with
    | nil => exact hr.elim
    | cons v vs =>
      obtain ⟨k1, p1⟩ := fitP_spec (ρ := ρ) h.1 hr.1
      obtain ⟨k2, p2⟩ := fitL_spec h.2 hr.2
      refine ⟨k1.append k2, ?_⟩
      simp only [packL, leavesL]
      rw [p1, List.drop_left' k1.length, p2]
theorem fitR_spec {r : RS} {x : SV} {v : Value} (h : fitR r x = true) (hr : VRel ρ x v) : KindsL r.kinds x.leaves ∧ r.pack x.leaves = v := by
  cases r with
  | one p =>
    cases x with
    | p x =>
      obtain ⟨k, hp⟩ := fitP_spec (ρ := ρ) h hr
      exact ⟨k, by have := hp []; rw [List.append_nil] at this; exact this⟩
    | tup xs => simp [fitR] at h
  | tup ps =>
    cases x with
    | p x => simp [fitR] at h
    | tup xs =>
      obtain ⟨vs, rfl, k⟩ := hr
      obtain ⟨k, hp⟩ := fitL_spec (ρ := ρ) h k
      exact ⟨k, by simp [RS.pack, SV.leaves, hp]⟩

theorem inCs_rel : ∀ {κs : List SK} {vs : List Value}, KindsL κs vs → ∀ rest, CsRel ρ (inCs κs (vs ++ rest)) vs
  | [], vs, h, rest => by rw [show vs = [] from h]; trivial
  | κ :: κs, vs, h, rest => by
    obtain ⟨v, us, rfl, h1, h2⟩ := h
    exact ⟨⟨h1.norm.symm, κ, rfl, h1⟩, inCs_rel h2 rest⟩
theorem inL_rel : ∀ {ps : List PS} {vs : List Value}, KindsL (kindsL ps) vs → VsRel ρ (inL ps vs) (packL ps vs)
  | [], _, _ => trivial
  | p :: ps, vs, h => by
    obtain ⟨k1, k2⟩ := KindsL.split h
    refine ⟨?_, inL_rel k2⟩
    have e : vs = vs.take p.kinds.length ++ vs.drop p.kinds.length := (List.take_append_drop _ _).symm
    cases p with
    | c κ =>
      obtain ⟨v, us, he, h1, h2⟩ := k1
      have : vs.headD undef = v := by rw [e, he]; rfl
      exact ⟨by simp only [SE.den, PS.pack, this, h1.norm], κ, rfl, by simp only [PS.pack, this]; exact h1⟩
    | agg κs =>
      have := inCs_rel (ρ := ρ) k1 (vs.drop κs.length)
      have e' : vs.take κs.length ++ vs.drop κs.length = vs := List.take_append_drop _ _
      simp only [PS.kinds] at this
      rw [e'] at this
      exact ⟨vs.take κs.length, rfl, this⟩
end

theorem call_part {P : Program} {I : World → Prop} (hst : Stays I) {M : MemS} (hM : MemOK P I M) {S : List Sum} (hS : ∀ c ∈ S, SumOK P I c) (n : Nat) (f : FuncId) (A : List PS) (R : RS) {vs : List Value} (hg : (evFM M P S n f (inL A vs)).good R = true) (hok : (evFM M P S n f (inL A vs)).ok = true)
    (hk : KindsL (kindsL A) vs) {w : World} (hIw : I w) : CallOK P f (packL A vs).toArray w fun v w' => v = R.pack (evFM M P S n f (inL A vs)).outL ∧ KindsL R.kinds (evFM M P S n f (inL A vs)).outL ∧ Below w.heap.size w w' := by
  obtain ⟨v, hd, hf, hv⟩ := good_den hg hok
  unfold evFM at hd
  obtain ⟨⟨sv, H', nx'⟩, h1, h2⟩ := den_bind_some hd
  simp [Tree.den] at h2
  subst h2
  refine (callF_sound (ev_sound hM hS n).1 (B := w.heap.size) (w0 := w) (Nat.le_refl _) (fun w' hb => hst w w' hIw hb) h1 (ρ := fun _ => none) (vs := packL A vs) (w := w) (inL_rel hk) ⟨fun _ _ h => by simp at h, fun _ _ _ h => by simp at h, fun _ _ _ h => by simp [find] at h⟩ (Below.refl _ _) (fun _ _ => rfl) (fun _ _ h => by simp [find] at h)).mono ?_
  rintro x w' ⟨ρ', _, hx, _, hb, _⟩
  obtain ⟨k, hp⟩ := fitR_spec hf hx
  exact ⟨by simp only [hv]; exact hp.symm, by simp only [hv]; exact k, hb⟩
/-- THE CONTRACT: an evaluation that ends well tells what the function does. -/
theorem sumOK_part {P : Program} {I : World → Prop} (hst : Stays I) {S : List Sum} (hS : ∀ c ∈ S, SumOK P I c) (n : Nat) (f : FuncId) (A : List PS) (R : RS) (hg : ∀ vs, (evF P S n f (inL A vs)).good R = true)
    (hok : ∀ vs, KindsL (kindsL A) vs → (evF P S n f (inL A vs)).ok = true) : SumOK P I ⟨f, fun vs => (evF P S n f (inL A vs)).outL, A, R⟩ := fun vs hk _ hIw => call_part hst noMem_ok hS n f A R (hg vs) (hok vs hk) hk hIw
theorem sumOK_ev {P : Program} {I : World → Prop} (hst : Stays I) {S : List Sum} (hS : ∀ c ∈ S, SumOK P I c) (n : Nat) (f : FuncId) (A : List PS) (R : RS) (hg : ∀ vs, ((evF P S n f (inL A vs)).good R && (evF P S n f (inL A vs)).sure) = true) :
    SumOK P I ⟨f, fun vs => (evF P S n f (inL A vs)).outL, A, R⟩ :=
  sumOK_part hst hS n f A R (fun vs => (Bool.and_eq_true_iff.1 (hg vs)).1) (fun vs _ => ok_of_sure (Bool.and_eq_true_iff.1 (hg vs)).2)

def AllOK (P : Program) (I : World → Prop) (S : List Sum) : Prop := ∀ c ∈ S, SumOK P I c
theorem allOK_nil {P : Program} {I : World → Prop} : AllOK P I [] := fun _ h => by cases h
theorem allOK_cons {P : Program} {I : World → Prop} {s : Sum} {S : List Sum} (h : SumOK P I s) (k : AllOK P I S) : AllOK P I (s :: S) := fun c hc => by
  rcases List.mem_cons.1 hc with rfl | hc
  · exact h
  · exact k c hc
/-- No invariant. -/
def Any : World → Prop := fun _ => True
theorem any_stays : Stays Any := fun _ _ _ _ => trivial
end Go.Proofs.YtjgmipklbpghfaaDoor

/- What is asked of the world: nothing. No condition. -/
namespace Go.Proofs.YtjgmipklbpghfaaDoor
def Inv : World → Prop := Any
theorem inv_stays : Stays Inv := any_stays
end Go.Proofs.YtjgmipklbpghfaaDoor

/- A contract's function, kept out of the kernel's sight. No condition. -/
namespace Go.Proofs.YtjgmipklbpghfaaDoor
open Go.RowKit
theorem veil {α β : Type} (x : α → β) : ∃ y : α → β, ∀ a, y a = x a := ⟨x, fun _ => rfl⟩
theorem sumOK_partV {P : Program} {I : World → Prop} (hst : Stays I) {S : List Sum} (hS : ∀ c ∈ S, SumOK P I c) (n : Nat) (f : FuncId) (A : List PS) (R : RS) {L : List Value → List Value} (hL : ∀ vs, L vs = (evF P S n f (inL A vs)).outL) (hg : ∀ vs, (evF P S n f (inL A vs)).good R = true)
    (hok : ∀ vs, KindsL (kindsL A) vs → (evF P S n f (inL A vs)).ok = true) : SumOK P I ⟨f, L, A, R⟩ := by
  obtain rfl : L = fun vs => (evF P S n f (inL A vs)).outL := funext hL
  exact sumOK_part hst hS n f A R hg hok
theorem sumOK_evV {P : Program} {I : World → Prop} (hst : Stays I) {S : List Sum} (hS : ∀ c ∈ S, SumOK P I c) (n : Nat) (f : FuncId) (A : List PS) (R : RS) {L : List Value → List Value} (hL : ∀ vs, L vs = (evF P S n f (inL A vs)).outL) (hg : ∀ vs, ((evF P S n f (inL A vs)).good R && (evF P S n f (inL A vs)).sure) = true) :
    SumOK P I ⟨f, L, A, R⟩ := by
  obtain rfl : L = fun vs => (evF P S n f (inL A vs)).outL := funext hL
  exact sumOK_ev hst hS n f A R hg
/-- A contract under a condition, over old memory that is read. -/
theorem csumOK_partV {P : Program} {I : World → Prop} (hst : Stays I) {M : MemS} (hM : MemOK P I M) {S : List Sum} (hS : ∀ c ∈ S, SumOK P I c) (n : Nat) (f : FuncId) (A : List PS) (R : RS) {L : List Value → List Value} (hL : ∀ vs, L vs = (evFM M P S n f (inL A vs)).outL) (pre : List Value → Bool) (hg : ∀ vs, (evFM M P S n f (inL A vs)).good R = true)
    (hok : ∀ vs, KindsL (kindsL A) vs → pre vs = true → (evFM M P S n f (inL A vs)).ok = true) : CSumOK P I ⟨f, L, pre, A, R⟩ := by
  obtain rfl : L = fun vs => (evFM M P S n f (inL A vs)).outL := funext hL
  exact fun vs hk hp _ hIw => call_part hst hM hS n f A R (hg vs) (hok vs hk hp) hk hIw
/-- What a veiled function computes, told by its evaluation. -/
theorem spellV {β : Type} (d : List Value → β) (t : Tree SV) {L : List Value → List Value} {vs : List Value} {y : β} (h1 : L vs = t.outL) (h2 : t.fold d = y) : d (L vs) = y := (congrArg d h1).trans ((fold_eq d t).trans h2)
end Go.Proofs.YtjgmipklbpghfaaDoor
