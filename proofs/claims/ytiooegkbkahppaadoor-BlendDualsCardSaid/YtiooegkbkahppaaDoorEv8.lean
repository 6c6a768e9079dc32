/- The symbolic evaluator: a region that draws its order, the induction. No condition. -/
import Derived.Test.YtiooegkbkahppaaDoorEv7
namespace Go.Proofs.YtiooegkbkahppaaDoor
open Go.RowKit

/-- A block reads as it should. -/
def BRel (B : Nat) (ρ : Rho) (w : World) (n : Nat) (b : Blk) : Prop :=
  ∀ x, ρ n = some x → (b.own = true → B ≤ x) ∧ ∃ vs : List Value, w.heap[x]? = some (.cells vs.toArray b.elem (0, 0)) ∧ CsRel ρ b.cells vs
/-- Names stand for blocks that are there, each for its own. -/
structure NRel (ρ : Rho) (w : World) : Prop where
  lt : ∀ n x, ρ n = some x → x < w.heap.size
  inj : ∀ n m x, ρ n = some x → ρ m = some x → n = m
theorem HRel.names {B : Nat} {ρ : Rho} {H : List (Nat × Blk)} {w : World} (h : HRel B ρ H w) : NRel ρ w := ⟨h.lt, h.inj⟩
theorem BRel.below {B : Nat} {ρ : Rho} {w w' : World} {n : Nat} {b : Blk} (h : BRel B ρ w n b) (hn : NRel ρ w) (hb : Below w.heap.size w w') : BRel B ρ w' n b := fun x hx => by
  obtain ⟨h1, vs, h2, h3⟩ := h x hx
  exact ⟨h1, vs, by rw [hb.block x (hn.lt n x hx)]; exact h2, h3⟩
theorem NRel.below {ρ : Rho} {w w' : World} (hn : NRel ρ w) (hb : w.heap.size ≤ w'.heap.size) : NRel ρ w' := ⟨fun n x h => Nat.lt_of_lt_of_le (hn.lt n x h) hb, hn.inj⟩
theorem NRel.alloc {ρ : Rho} {w : World} (hr : NRel ρ w) {n : Nat} (o : Obj) : NRel (newRho ρ n w.heap.size) (w.alloc o) := by
  refine ⟨fun m x hm => ?_, fun m k x hm hk => ?_⟩
  · simp only [newRho] at hm
    simp only [World.size_alloc]
    split at hm
    · simp at hm; omega
    · have := hr.lt m x hm; omega
  · simp only [newRho] at hm hk
    split at hm <;> split at hk
    · rename_i e1 e2; rw [e1, e2]
    · simp at hm; subst hm; have := hr.lt k _ hk; omega
    · simp at hk; subst hk; have := hr.lt m _ hm; omega
    · exact hr.inj m k x hm hk
theorem BRel.alloc_old {B : Nat} {ρ : Rho} {w : World} {n m : Nat} {b : Blk} (h : BRel B ρ w m b) (hr : NRel ρ w) (hn : ρ n = none) (hne : m ≠ n) (o : Obj) : BRel B (newRho ρ n w.heap.size) (w.alloc o) m b := fun x hx => by
  simp only [newRho] at hx
  rw [if_neg hne] at hx
  obtain ⟨h1, vs, h2, h3⟩ := h x hx
  exact ⟨h1, vs, by rw [Below.heap_alloc _ _ _ (hr.lt m x hx)]; exact h2, h3.mono (newRho_ext hn)⟩
theorem BRel.alloc_new {B : Nat} {ρ : Rho} {w : World} {n : Nat} (hn : ρ n = none) (hB : B ≤ w.heap.size) {cs : List SC} {vs : List Value} {t : TypeId} (hc : CsRel ρ cs vs) : BRel B (newRho ρ n w.heap.size) (w.alloc (.cells vs.toArray t)) n ⟨cs, t, true⟩ := fun x hx => by
  simp only [newRho] at hx
  simp at hx
  subst hx
  refine ⟨fun _ => hB, vs, ?_, hc.mono (newRho_ext hn)⟩
  show (w.heap.push _)[w.heap.size]? = _
  simp

theorem find_upd_self : ∀ (H : List (Nat × Blk)) {H2 : List (Nat × Blk)} (n : Nat) (cs : List SC), find H n = find H2 n → find (upd H n cs) n = find (upd H2 n cs) n := by
  have key : ∀ (H : List (Nat × Blk)) (n : Nat) (cs : List SC), find (upd H n cs) n = (find H n).map fun b => { b with cells := cs } := by
    intro H n cs
    induction H with
    | nil => rfl
    | cons p H ih =>
      obtain ⟨m, x⟩ := p
      simp only [upd]
      cases hmn : Nat.beq m n with
      | true => simp [find, hmn]
      | false => simp [find, hmn, ih]
  intro H H2 n cs h
  rw [key, key, h]
theorem vE_val {x : SE} {r : Res} (h : (vE x).den = some r) : ∃ v, r = .val v := ⟨_, vE_some h⟩
theorem ite_val {c : SE} {t f : Tree Res} {r : Res} (ht : t.den = some r → ∃ v, r = .val v) (hf : f.den = some r → ∃ v, r = .val v) (h : (Tree.ite c t f).den = some r) : ∃ v, r = .val v := by
  simp only [Tree.den] at h
  cases hc : tru c.den with
  | true => rw [hc] at h; exact ht h
  | false => rw [hc] at h; exact hf h
theorem fail_val {r : Res} (h : (Tree.fail : Tree Res).den = some r) : ∃ v, r = .val v := by simp [Tree.den] at h
theorem binE_val {op : BinOp} {k k' : IntKind} {a b : SE} {r : Res} (h : (binE op k k' a b).den = some r) : ∃ v, r = .val v := by
  unfold binE at h
  split at h <;> (repeat' (split at h)) <;> first
    | exact vE_val h
    | exact fail_val h
    | exact ite_val fail_val vE_val h
theorem binStep_val {P : Program} {op : BinOp} {t : TypeId} {x y : SP} {r : Res} (h : (binStep P op t x y).den = some r) : ∃ v, r = .val v := by
  unfold binStep at h
  split at h <;> (repeat' (split at h)) <;> first
    | exact vE_val h
    | exact fail_val h
    | exact binE_val h
theorem splitI_res {e : SE} {k : IntKind} {mk : Nat → Tree Res} {r : Res} {p : Prop} (hp : ∀ q, (mk q).den = some r → p) : ∀ (c i : Nat), (splitI e k mk i c).den = some r → p
  | 0, i, h => by simp [splitI, Tree.den] at h
  | c + 1, i, h => by
    simp only [splitI, Tree.den] at h
    generalize tru (SE.cmp .eql e (.lit (.int k i))).den = b at h
    cases b with
    | true => exact hp i h
    | false => exact splitI_res hp c (i + 1) h
theorem atI_res {e : SE} {len : Nat} {mk : Nat → Tree Res} {r : Res} {p : Prop} (hp : ∀ q, (mk q).den = some r → p) (h : (atI e len mk).den = some r) : p := by
  unfold atI at h
  split at h
  · split at h
    · exact hp _ h
    · simp [Tree.den] at h
  · split at h
    · exact splitI_res hp _ _ h
    · simp [Tree.den] at h
theorem minmax_val {mk : IntKind → SE → SE → SE} {g : Get} {l : List Operand} {r : Res} (h : (minmax mk g l).den = some r) : ∃ v, r = .val v := by
  unfold minmax at h
  (repeat' (split at h)) <;> first
    | exact vE_val h
    | exact fail_val h
theorem ret_val {v : SV} {r : Res} (h : (Tree.ret (Res.val v)).den = some r) : ∃ v, r = .val v := by simp [Tree.den] at h; exact ⟨v, h.symm⟩
theorem pure_res {P : Program} {H : List (Nat × Blk)} {g : Get} {op : Op} {r : Res} (h : (pureStep P H g op).den = some r) : (∃ v, r = .val v) ∨ (∃ cs t, r = .blk cs t) ∨ (∃ cs t n, r = .sl cs t n) ∨ ∃ t x y, op = .store t x y := by
  unfold pureStep at h
  split at h
  case h_8 => exact .inr (.inr (.inr ⟨_, _, _, rfl⟩))
  all_goals (repeat' (split at h))
  all_goals first
    | exact .inl (ret_val h)
    | exact .inl (fail_val h)
    | exact .inl (vE_val h)
    | exact .inl (binStep_val h)
    | exact .inl (minmax_val h)
    | exact .inl (ite_val ret_val ret_val h)
    | exact .inl (atI_res (fun q h => ret_val h) h)
    | exact .inl (atI_res (fun q h => by split at h; exact ret_val h; exact fail_val h) h)
    | (simp [Tree.den] at h; exact .inr (.inl ⟨_, _, h.symm⟩))
    | (simp [Tree.den] at h; exact .inr (.inr (.inl ⟨_, _, _, h.symm⟩)))

theorem pure_blk {P : Program} {H : List (Nat × Blk)} {g : Get} {op : Op} {r : Res} (h : (pureStep P H g op).den = some r) (hr : (∃ cs t, r = .blk cs t) ∨ ∃ cs t n, r = .sl cs t n) :
    (∃ t, op = .alloc t) ∨ (∃ t x, op = .box t x) ∨ ∃ t n ps, op = .buildSlice t n ps := by
  have nv : ∀ {p : Prop}, (∃ v, r = .val v) → p := fun ⟨v, hv⟩ => by
    subst hv
    rcases hr with ⟨_, _, h⟩ | ⟨_, _, _, h⟩ <;> cases h
  unfold pureStep at h
  split at h
  case h_4 => exact .inl ⟨_, rfl⟩
  case h_5 => exact .inr (.inl ⟨_, _, rfl⟩)
  case h_18 => exact .inr (.inr ⟨_, _, _, rfl⟩)
  all_goals (repeat' (split at h))
  all_goals first
    | exact nv (ret_val h)
    | exact nv (fail_val h)
    | exact nv (vE_val h)
    | exact nv (binStep_val h)
    | exact nv (minmax_val h)
    | exact nv (ite_val ret_val ret_val h)
    | exact nv (atI_res (fun q h => ret_val h) h)
    | exact nv (atI_res (fun q h => by split at h; exact ret_val h; exact fail_val h) h)
    | (simp [Tree.den] at h; subst h; rcases hr with ⟨_, _, h⟩ | ⟨_, _, _, h⟩ <;> cases h)

section
variable {P : Program} {I : World → Prop} {rec : Rec} {B : Nat} {w0 : World} (hI : ∀ w, Below B w0 w → I w) {S : List Sum} (hS : ∀ c ∈ S, SumOK P I c)

/-- How one operation leaves memory. -/
def Leaves (g : Get) (o : Oper) (s s1 : St) : Prop :=
  (isSt o = false ∧ s1.H = s.H ∧ s1.nx = s.nx) ∨ (isSt o = false ∧ accOf g s.nx o = some s.nx ∧ ∃ b, s1.H = (s.nx, b) :: s.H ∧ s1.nx = s.nx + 1) ∨
    (isSt o = true ∧ s1.nx = s.nx ∧ ∃ n cs, accOf g s.nx o = some n ∧ (∃ b, find s.H n = some b) ∧ s1.H = upd s.H n cs)
/-- What one operation does, wherever its operands and the block that it touches read as they should. -/
def Does (P : Program) (B : Nat) (w0 : World) (o : Oper) (s s1 : St) (v : SV) : Prop :=
  ∀ {ρ : Rho} {a : Act} {w : World} {K : Act → World → Prop} {Q : Exit → Act → World → Prop}, (∀ x ∈ o.op.operands, ∀ sv, lookT s.T x = some sv → VRel ρ sv (a.eval x)) → NRel ρ w →
    (∀ n b, accOf (lookT s.T) s.nx o = some n → find s.H n = some b → BRel B ρ w n b) → Below B w0 w →
    (isSt o = false → ∀ x w', VRel ρ v x → Below w.heap.size w w' → s1.H = s.H → s1.nx = s.nx → K (a.put o.dst x) w') →
    (isSt o = false → ∀ x cs t vs, accOf (lookT s.T) s.nx o = some s.nx → s1.H = (s.nx, ⟨cs, t, true⟩) :: s.H → s1.nx = s.nx + 1 → CsRel ρ cs vs → (ρ s.nx = none → VRel (newRho ρ s.nx w.heap.size) v x) → K (a.put o.dst x) (w.alloc (.cells vs.toArray t))) →
    (isSt o = true → ∀ x w' n, accOf (lookT s.T) s.nx o = some n → VRel ρ v x → (∀ b, find s1.H n = some b → BRel B ρ w' n b) → (∀ m y, m ≠ n → ρ m = some y → w'.heap[y]? = w.heap[y]?) → w'.heap.size = w.heap.size → Below B w w' → s1.nx = s.nx → K (a.put o.dst x) w') →
    o.wp P a w K Q
include hI hS

/-- What one allowed operation does, looking at its operands alone. -/
theorem oneStep {u : Bool} {o : Oper} {s s1 : St} (hal : allowed S o = true) (h : (opS rec P S u o s).den = some s1) :
    ∃ v, s1.T = putT s.T o.dst v ∧ Leaves (lookT s.T) o s s1 ∧ Does P B w0 o s s1 v := by
  unfold opS at h
  split at h
  · rename_i f args ats hop
    have hst : isSt o = false := by simp [isSt, hop]
    split at h
    · rename_i f' caps vs hf hvs
      obtain ⟨⟨sv, H', nx'⟩, h1, h2⟩ := den_bind_some h
      obtain ⟨v', h3, h4⟩ := den_bind_some h2
      simp [Tree.den] at h4
      subst h4
      unfold allowed at hal
      simp only [hop] at hal
      have hff : f = .func f' ∧ caps = [] ∧ (findS S f').isSome = true := by
        cases f with
        | func k => simp [lookT] at hf; obtain ⟨rfl, rfl⟩ := hf; exact ⟨rfl, rfl, hal⟩
        | tmp t => simp at hal
        | const t => simp at hal
        | global t => simp at hal
      obtain ⟨rfl, rfl, hfs⟩ := hff
      obtain ⟨c, hc⟩ := Option.isSome_iff_exists.1 hfs
      obtain ⟨hmem, rfl⟩ := findS_spec hc
      unfold callS at h1
      simp only [hc] at h1
      split at h1
      · rename_i xs hxs
        simp [Tree.den] at h1
        obtain ⟨rfl, rfl, rfl⟩ := h1
        refine ⟨v', rfl, .inl ⟨hst, rfl, rfl⟩, fun {ρ a w K Q} hg _ _ hb hK _ _ => ?_⟩
        classical
        let g' : Get := fun x => if x ∈ o.op.operands then lookT s.T x else none
        have hg' : ∀ x sv, g' x = some sv → VRel ρ sv (a.eval x) := fun x sv hx => by
          simp only [g'] at hx
          split at hx
          · rename_i hm; exact hg x hm sv hx
          · simp at hx
        have hvs' : getSs g' args.toList = some vs := by
          rw [← hvs]
          exact getSs_congr _ fun x hx => by simp only [g']; rw [if_pos (by rw [hop]; simp [Op.operands, Call.operands] at hx ⊢; exact .inr hx)]
        have hvr := getSs_rel (ρ := ρ) (e := a.eval) hg' _ _ hvs'
        simp only [capsS, List.map_nil, List.append_nil] at hxs
        obtain ⟨e, hk⟩ := flatL_spec hxs hvr
        have hcall := hS c hmem (denL xs) hk w (hI w hb)
        rw [← e] at hcall
        have hx : (execOp a.eval o).run P w = (callFunc c.f (args.toList.map a.eval).toArray).run P w := by
          have e : (args.toList.map a.eval).toArray = args.map a.eval := by apply Array.ext'; simp
          rw [e]
          simp [execOp, hop, resolve, Act.eval, Deferred.ofValue, invoke]
        unfold Oper.wp
        rw [hx]
        refine hcall.upon fun v w' ⟨hv', hk', hb'⟩ => ?_
        subst hv'
        exact hK hst _ w' (part_spec h3 (mkR_rel rfl hk')) hb' rfl rfl
      · simp [Tree.den] at h1
    · simp [Tree.den] at h
  · rename_i hncall
    obtain ⟨r, h1, h2⟩ := den_bind_some h
    -- memory, but for the block that is touched, forgotten
    let H1 : List (Nat × Blk) := match accOf (lookT s.T) s.nx o with
      | some n => match find s.H n with
        | some b => [(n, b)]
        | none => []
      | none => []
    have hH1 : ∀ n b, find H1 n = some b → accOf (lookT s.T) s.nx o = some n ∧ find s.H n = some b := by
      intro n b hn
      simp only [H1] at hn
      split at hn
      · rename_i m ha
        split at hn
        · rename_i c hc
          simp only [find] at hn
          split at hn
          · rename_i e
            have := beq_len e
            subst this
            simp at hn
            subst hn
            exact ⟨ha, hc⟩
          · simp at hn
        · simp [find] at hn
      · simp [find] at hn
    have hH1' : ∀ n, accOf (lookT s.T) s.nx o = some n → find H1 n = find s.H n := by
      intro n ha
      simp only [H1, ha]
      cases hc : find s.H n with
      | none => rfl
      | some c => simp only [find]; rw [if_pos (Nat.beq_refl _)]
    have hpure : pureStep P s.H (lookT s.T) o.op = pureStep P H1 (lookT s.T) o.op := pure_heap fun t x n hop ha => (hH1' n (by
      rcases hop with hop | ⟨y, hop⟩ <;> simp only [accOf, hop, ha])).symm
    have main : ∀ {ρ : Rho} {a : Act} {w : World}, (∀ x ∈ o.op.operands, ∀ sv, lookT s.T x = some sv → VRel ρ sv (a.eval x)) → NRel ρ w → (∀ n b, accOf (lookT s.T) s.nx o = some n → find s.H n = some b → BRel B ρ w n b) → Eff P B ρ H1 w (execOp a.eval o) r := by
      intro ρ a w hg hn hb
      classical
      let g' : Get := fun x => if x ∈ o.op.operands then lookT s.T x else none
      have hg' : ∀ x sv, g' x = some sv → VRel ρ sv (a.eval x) := fun x sv hx => by
        simp only [g'] at hx
        split at hx
        · rename_i hm; exact hg x hm sv hx
        · simp at hx
      refine pure_sound (g := g') hg' ⟨hn.lt, hn.inj, fun n b x hf hx => ?_⟩ ?_
      · obtain ⟨q1, q2⟩ := hH1 n b hf
        exact hb n b q1 q2 x hx
      · rw [← h1, hpure]
        congr 1
        exact pure_congr fun x hx => by simp only [g']; rw [if_pos hx]
    cases r with
    | val v =>
      simp only [fin] at h2
      obtain ⟨v', h3, h4⟩ := den_bind_some h2
      simp [Tree.den] at h4
      subst h4
      have hst : isSt o = false := by
        cases hst : isSt o with
        | false => rfl
        | true =>
          unfold isSt at hst
          split at hst
          · rename_i t x y hop
            rw [hop] at h1
            simp only [pureStep] at h1
            (repeat' (split at h1)) <;> simp [Tree.den] at h1
          · simp at hst
      refine ⟨v', rfl, .inl ⟨hst, rfl, rfl⟩, fun {ρ a w K Q} hg hn hb _ hK _ _ => ?_⟩
      obtain ⟨x, hr, hv⟩ := main hg hn hb
      unfold Oper.wp
      rw [hr]
      exact hK hst x w (part_spec h3 hv) (Below.refl _ _) rfl rfl
    | blk cs t =>
      simp [fin, Tree.den] at h2
      subst h2
      have hsm : isSt o = false ∧ accOf (lookT s.T) s.nx o = some s.nx := by
        rcases pure_blk h1 (.inl ⟨_, _, rfl⟩) with ⟨t, hop⟩ | ⟨t, x, hop⟩ | ⟨t, n, ps, hop⟩ <;> simp [isSt, accOf, hop]
      refine ⟨.p (.c (.p s.nx 0)), rfl, .inr (.inl ⟨hsm.1, hsm.2, _, rfl, rfl⟩), fun {ρ a w K Q} hg hn hb _ _ hK _ => ?_⟩
      obtain ⟨vs, hr, hv⟩ := main hg hn hb
      unfold Oper.wp
      rw [hr]
      exact hK hsm.1 _ cs t vs hsm.2 rfl rfl hv fun _ => ⟨w.heap.size, by simp [newRho], rfl⟩
    | sl cs t len =>
      simp [fin, Tree.den] at h2
      subst h2
      have hsm : isSt o = false ∧ accOf (lookT s.T) s.nx o = some s.nx := by
        rcases pure_blk h1 (.inr ⟨_, _, _, rfl⟩) with ⟨t, hop⟩ | ⟨t, x, hop⟩ | ⟨t, n, ps, hop⟩ <;> simp [isSt, accOf, hop]
      refine ⟨.p (.c (.sl s.nx 0 len len)), rfl, .inr (.inl ⟨hsm.1, hsm.2, _, rfl, rfl⟩), fun {ρ a w K Q} hg hn hb _ _ hK _ => ?_⟩
      obtain ⟨vs, hr, hv⟩ := main hg hn hb
      unfold Oper.wp
      rw [hr]
      exact hK hsm.1 _ cs t vs hsm.2 rfl rfl hv fun _ => ⟨w.heap.size, by simp [newRho], rfl⟩
    | st n cs off new =>
      simp [fin, Tree.den] at h2
      subst h2
      have hop : isSt o = true ∧ accOf (lookT s.T) s.nx o = some n ∧ ∃ b, find s.H n = some b := by
        rcases pure_res h1 with ⟨v, hv⟩ | ⟨cs, t, hv⟩ | ⟨cs, t, n, hv⟩ | ⟨t, x, y, hop⟩
        · cases hv
        · cases hv
        · cases hv
        · refine ⟨by simp [isSt, hop], ?_⟩
          rw [hop] at h1
          simp only [pureStep] at h1
          split at h1
          · rename_i n' off' v' ha _
            split at h1
            · rename_i b k hb hk
              split at h1
              · simp [Tree.den] at h1
                obtain ⟨rfl, _⟩ := h1
                exact ⟨by simp [accOf, hop, ha], b, hb⟩
              · simp [Tree.den] at h1
            · simp [Tree.den] at h1
          · simp [Tree.den] at h1
      refine ⟨undefS, rfl, .inr (.inr ⟨hop.1, rfl, n, _, hop.2.1, hop.2.2, rfl⟩), fun {ρ a w K Q} hg hn hb _ _ _ hK => ?_⟩
      obtain ⟨w', hr, hH', hb', hsz, y, b, hy, hfb, hoth⟩ := main hg hn hb
      unfold Oper.wp
      rw [hr]
      refine hK hop.1 _ w' n hop.2.1 undef_rel (fun c hc => ?_) (fun m z hm hz => hoth z fun e => hm (hn.inj m n y (by rw [hz, e]) hy)) hsz hb' rfl
      intro x hx
      have hfs : find (upd H1 n (putC cs off new)) n = some c := by
        have e1 := find_upd_self H1 n (putC cs off new) (hH1' n hop.2.1)
        rw [e1, ← hc]
      exact hH'.blk n c x hfs hx

/-! Along the text. -/
structure Trace (rec : Rec) (P : Program) (S : List Sum) (ops : Array Oper) (i : Nat) (l : List Oper) (st : Nat → St) (acc : Nat → Option Nat) : Prop where
  step : ∀ k o, l[k]? = some o → ∃ b, wantS ops (st (i + k)).T o = some b ∧ (b = false → st (i + k + 1) = { st (i + k) with T := putT (st (i + k)).T o.dst undefS } ∧ acc (i + k) = none) ∧
    (b = true → (opS rec P S (used ops (i + k)) o (st (i + k))).den = some (st (i + k + 1)) ∧ acc (i + k) = accOf (lookT (st (i + k)).T) (st (i + k)).nx o)
omit hI hS in
theorem trace_of {ops : Array Oper} : ∀ (l : List Oper) (i : Nat) {s s' : St} {as as' : List (Option Nat)}, (evD rec P S ops i l s as).den = some (s', as') → ∃ (st : Nat → St) (acc : Nat → Option Nat) (bs : List (Option Nat)), st i = s ∧ st (i + l.length) = s' ∧ as' = as ++ bs ∧ bs.length = l.length ∧
    (∀ k, k < l.length → bs[k]? = some (acc (i + k))) ∧ Trace rec P S ops i l st acc
  | [], i, s, s', as, as', h => by
    simp [evD, Tree.den] at h
    obtain ⟨rfl, rfl⟩ := h
    exact ⟨fun _ => s, fun _ => none, [], rfl, rfl, by simp, rfl, fun k hk => by simp at hk, ⟨fun k o hk => by simp at hk⟩⟩
  | o :: l, i, s, s', as, as', h => by
    have put : ∀ {s1 : St} {st : Nat → St} {acc : Nat → Option Nat} {x : Option Nat} {bs : List (Option Nat)}, st (i + 1) = s1 → st (i + 1 + l.length) = s' → as' = as ++ [x] ++ bs → bs.length = l.length → (∀ k, k < l.length → bs[k]? = some (acc (i + 1 + k))) → Trace rec P S ops (i + 1) l st acc →
        (∃ b, wantS ops s.T o = some b ∧ (b = false → s1 = { s with T := putT s.T o.dst undefS } ∧ x = none) ∧ (b = true → (opS rec P S (used ops i) o s).den = some s1 ∧ x = accOf (lookT s.T) s.nx o)) →
        ∃ (st : Nat → St) (acc : Nat → Option Nat) (bs : List (Option Nat)), st i = s ∧ st (i + (o :: l).length) = s' ∧ as' = as ++ bs ∧ bs.length = (o :: l).length ∧ (∀ k, k < (o :: l).length → bs[k]? = some (acc (i + k))) ∧ Trace rec P S ops i (o :: l) st acc := by
      intro s1 st acc x bs e1 e2 e3 e4 e5 ht hstep
      refine ⟨fun m => if m = i then s else st m, fun m => if m = i then x else acc m, x :: bs, by simp, ?_, by rw [e3]; simp, by simp [e4], fun k hk => ?_, ⟨fun k o' hk => ?_⟩⟩
      · have e : i + (o :: l).length = i + 1 + l.length := by simp; omega
        simp only [e]
        rw [if_neg (show i + 1 + l.length ≠ i by omega)]
        exact e2
      · cases k with
        | zero => simp
        | succ k =>
          have e : i + (k + 1) = i + 1 + k := by omega
          simp only [e]
          rw [if_neg (show i + 1 + k ≠ i by omega)]
          simpa using e5 k (by simpa using hk)
      · cases k with
        | zero =>
          simp at hk
          subst hk
          simpa [e1] using hstep
        | succ k =>
          have := ht.step k o' (by simpa using hk)
          have e : i + (k + 1) = i + 1 + k := by omega
          simp only [e]
          rw [if_neg (show i + 1 + k ≠ i by omega), if_neg (show i + 1 + k + 1 ≠ i by omega), if_neg (show i + 1 + k ≠ i by omega)]
          exact this
    simp only [evD] at h
    split at h
    · simp [Tree.den] at h
    · rename_i hw
      obtain ⟨st, acc, bs, e1, e2, e3, e4, e5, ht⟩ := trace_of l (i + 1) h
      exact put e1 e2 e3 e4 e5 ht ⟨false, hw, fun _ => ⟨rfl, rfl⟩, fun hf => Bool.noConfusion hf⟩
    · rename_i hw
      obtain ⟨s1, h1, h2⟩ := den_bind_some h
      obtain ⟨st, acc, bs, e1, e2, e3, e4, e5, ht⟩ := trace_of l (i + 1) h2
      exact put e1 e2 e3 e4 e5 ht ⟨true, hw, fun hf => Bool.noConfusion hf, fun _ => ⟨h1, rfl⟩⟩
end
end Go.Proofs.YtiooegkbkahppaaDoor
