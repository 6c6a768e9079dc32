/- The symbolic evaluator: contracts, calls, and the pieces of the walk. No condition. -/
import Derived.Test.YtiooegkbkahppaaDoorEv4
namespace Go.Proofs.YtiooegkbkahppaaDoor
open Go.RowKit

def KindsL : List SK → List Value → Prop
  | [], vs => vs = []
  | κ :: κs, vs => ∃ v us, vs = v :: us ∧ inKind κ v ∧ KindsL κs us

/-- A call runs to its end and hands back v. -/
def CallOK (P : Program) (f : FuncId) (args : Array Value) (w : World) (R : Value → World → Prop) : Prop :=
  ((callFunc f args).run P w = .ok (.enter f args) w ∧ Calls P f args w fun e w' => ∃ v, e = .returned v ∧ R v w') ∨ (∃ v, (callFunc f args).run P w = .ok (.value v) w ∧ R v w)
theorem CallOK.mono {P : Program} {f : FuncId} {args : Array Value} {w : World} {R R' : Value → World → Prop} (h : CallOK P f args w R) (k : ∀ v w', R v w' → R' v w') : CallOK P f args w R' := by
  rcases h with ⟨h1, h2⟩ | ⟨v, h1, h2⟩
  · exact .inl ⟨h1, h2.mono fun e w' ⟨v, he, hr⟩ => ⟨v, he, k v w' hr⟩⟩
  · exact .inr ⟨v, h1, k v w h2⟩

/-- What holds of the world, and stays while no old block turns. -/
def Stays (I : World → Prop) : Prop := ∀ w w', I w → Below w.heap.size w w' → I w'

/-- A contract holds, in every world of which I holds. -/
def SumOK (P : Program) (I : World → Prop) (s : Sum) : Prop :=
  ∀ vs, KindsL (kindsL s.args) vs → ∀ w, I w → CallOK P s.f (packL s.args vs).toArray w fun v w' => v = s.res.pack (s.F vs) ∧ KindsL s.res.kinds (s.F vs) ∧ Below w.heap.size w w'

theorem findS_spec : ∀ {S : List Sum} {f : FuncId} {c : Sum}, findS S f = some c → c ∈ S ∧ c.f = f
  | [], _, _, h => by simp [findS] at h
  | s :: S, f, c, h => by
    simp only [findS] at h
    split at h
    · rename_i hb
      simp at h
      subst h
      exact ⟨by simp, beq_len hb⟩
    · obtain ⟨h1, h2⟩ := findS_spec h
      exact ⟨List.mem_cons_of_mem _ h1, h2⟩

/-! Arguments flattened. -/
theorem denL_append : ∀ (xs ys : List SE), denL (xs ++ ys) = denL xs ++ denL ys
  | [], _ => rfl
  | x :: xs, ys => by simp [denL, denL_append xs ys]
theorem KindsL.length : ∀ {κs : List SK} {vs : List Value}, KindsL κs vs → vs.length = κs.length
  | [], vs, h => by rw [show vs = [] from h]; rfl
  | κ :: κs, vs, h => by obtain ⟨v, us, rfl, _, k⟩ := h; simp [KindsL.length k]
theorem KindsL.append : ∀ {κs κs' : List SK} {vs us : List Value}, KindsL κs vs → KindsL κs' us → KindsL (κs ++ κs') (vs ++ us)
  | [], _, vs, us, h, k => by rw [show vs = [] from h]; exact k
  | κ :: κs, _, vs, us, h, k => by obtain ⟨v, ws, rfl, h1, h2⟩ := h; exact ⟨v, ws ++ us, rfl, h1, KindsL.append h2 k⟩
theorem KindsL.split : ∀ {κs κs' : List SK} {vs : List Value}, KindsL (κs ++ κs') vs → KindsL κs (vs.take κs.length) ∧ KindsL κs' (vs.drop κs.length)
  | [], _, vs, h => ⟨by simp [KindsL], by simpa using h⟩
  | κ :: κs, _, vs, h => by
    obtain ⟨v, ws, rfl, h1, h2⟩ := h
    obtain ⟨k1, k2⟩ := KindsL.split h2
    exact ⟨⟨v, ws.take κs.length, by simp, h1, k1⟩, by simpa using k2⟩

section
variable {ρ : Rho}
theorem flatC_spec : ∀ {κs : List SK} {cs : List SC} {xs : List SE} {vs : List Value}, flatC κs cs = some xs → CsRel ρ cs vs → vs = denL xs ∧ KindsL κs (denL xs)
  | [], [], xs, vs, h, hr => by
    simp [flatC] at h
    subst h
    cases vs with
    | nil => exact ⟨rfl, rfl⟩
    | cons v vs => exact hr.elim
  | [], _ :: _, _, _, h, _ => by simp [flatC] at h
  | κ :: κs, [], _, _, h, _ => by simp [flatC] at h
  | κ :: κs, c :: cs, xs, vs, h, hr => by
    cases c with
    | e x =>
      simp only [flatC] at h
      split at h
      · rename_i κ' r hk hf
        split at h
        · rename_i he
          obtain rfl := eqSK_eq he
          simp at h
          subst h
          cases vs with
          | nil => exact hr.elim
          | cons v vs =>
            obtain ⟨⟨hd, κ2, hk2, hi⟩, hr⟩ := hr
            obtain ⟨e2, k2⟩ := flatC_spec hf hr
            rw [hk] at hk2
            cases hk2
            subst hd
            exact ⟨by simp [denL, e2], _, _, rfl, hi, k2⟩
        · simp at h
      · simp at h
    | p b off => simp [flatC] at h
    | fn f caps => simp [flatC] at h
    | sl b off len cap => simp [flatC] at h
theorem flatP_spec {p : PS} {x : SP} {xs : List SE} {v : Value} (h : flatP p x = some xs) (hr : PRel ρ x v) (rest : List Value) : v = p.pack (denL xs ++ rest) ∧ KindsL p.kinds (denL xs) := by
  cases p with
  | c κ =>
    cases x with
    | c x =>
      obtain ⟨e, k⟩ := flatC_spec (ρ := ρ) (vs := [v]) h ⟨hr, trivial⟩
      refine ⟨?_, k⟩
      rw [← e]
      rfl
    | agg cs => simp [flatP] at h
  | agg κs =>
    cases x with
    | c x => simp [flatP] at h
    | agg cs =>
      obtain ⟨vs, rfl, k⟩ := hr
      obtain ⟨e, k⟩ := flatC_spec (ρ := ρ) h k
      refine ⟨?_, k⟩
      simp only [PS.pack]
      rw [List.take_left' k.length, e]
theorem flatL_spec : ∀ {ps : List PS} {svs : List SV} {xs : List SE} {vs : List Value}, flatL ps svs = some xs → VsRel ρ svs vs → vs = packL ps (denL xs) ∧ KindsL (kindsL ps) (denL xs)
  | [], [], xs, vs, h, hr => by
    simp [flatL] at h
    subst h
    cases vs with
    | nil => exact ⟨rfl, rfl⟩
    | cons v vs => exact hr.elim
  | [], _ :: _, _, _, h, _ => by simp [flatL] at h
  | _ :: _, [], _, _, h, _ => by simp [flatL] at h
  | p :: ps, s :: svs, xs, vs, h, hr => by
    cases s with
    | tup ys => simp [flatL] at h
    | p x =>
      simp only [flatL] at h
      split at h
      · rename_i a b ha hb
        simp at h
        subst h
        cases vs with
        | nil => exact hr.elim
        | cons v vs =>
          obtain ⟨h1, h2⟩ := hr
          obtain ⟨e2, k2⟩ := flatL_spec hb h2
          obtain ⟨e1, k1⟩ := flatP_spec (ρ := ρ) ha h1 (denL b)
          rw [denL_append]
          refine ⟨?_, k1.append k2⟩
          simp only [packL]
          rw [← e1, List.drop_left' k1.length, ← e2]
      · simp at h

theorem app_rel {f : Nat} {F : List Value → List Value} {xs : List SE} {j : Nat} {κ : SK} {rs rest : List Value} {v : Value} (h : F (denL xs) = rs) (hr : rs.drop j = v :: rest) (hk : inKind κ v) : CRel ρ (.e (.app f F j κ xs)) v := by
  refine ⟨?_, κ, rfl, hk⟩
  simp only [SE.den, h]
  rw [show rs.getD j undef = v from ?_, hk.norm]
  have : rs[j]? = some v := by
    have := congrArg (fun l => l[0]?) hr
    simpa using this
  simp [List.getD, this]
theorem apps_rel {f : Nat} {F : List Value → List Value} {xs : List SE} {rs : List Value} (h : F (denL xs) = rs) : ∀ {κs : List SK} {j : Nat} {vs rest : List Value}, rs.drop j = vs ++ rest → KindsL κs vs → CsRel ρ (appsS f F xs j κs) vs
  | [], j, vs, rest, _, hk => by rw [show vs = [] from hk]; trivial
  | κ :: κs, j, vs, rest, hd, hk => by
    obtain ⟨v, us, rfl, h1, h2⟩ := hk
    refine ⟨app_rel h (by simpa using hd) h1, apps_rel h (j := j + 1) (rest := rest) ?_ h2⟩
    have : rs.drop (j + 1) = (rs.drop j).drop 1 := by simp
    rw [this, hd]
    simp
theorem mkP_rel {f : Nat} {F : List Value → List Value} {xs : List SE} {rs : List Value} (h : F (denL xs) = rs) {p : PS} {j : Nat} {vs rest : List Value} (hd : rs.drop j = vs ++ rest) (hk : KindsL p.kinds vs) : PRel ρ (mkP f F xs j p) (p.pack (vs ++ rest)) := by
  cases p with
  | c κ =>
    obtain ⟨v, us, rfl, h1, h2⟩ := hk
    have : us = [] := h2
    subst this
    have e : (PS.c κ).pack ([v] ++ rest) = v := rfl
    rw [e]
    exact app_rel (ρ := ρ) (rest := rest) h (by simpa using hd) h1
  | agg κs =>
    refine ⟨vs, ?_, apps_rel h hd hk⟩
    simp only [PS.pack]
    rw [List.take_left' (show vs.length = κs.length from hk.length)]
theorem mkPs_rel {f : Nat} {F : List Value → List Value} {xs : List SE} {rs : List Value} (h : F (denL xs) = rs) : ∀ {ps : List PS} {j : Nat} {vs : List Value}, rs.drop j = vs → KindsL (kindsL ps) vs → PsRel ρ (mkPs f F xs j ps) (packL ps vs)
  | [], j, vs, _, _ => trivial
  | p :: ps, j, vs, hd, hk => by
    obtain ⟨k1, k2⟩ := KindsL.split hk
    have e : vs = vs.take p.kinds.length ++ vs.drop p.kinds.length := (List.take_append_drop _ _).symm
    refine ⟨?_, mkPs_rel h (j := j + p.kinds.length) ?_ k2⟩
    · have := mkP_rel (ρ := ρ) (f := f) h (p := p) (j := j) (vs := vs.take p.kinds.length) (rest := vs.drop p.kinds.length) (by rw [hd]; exact e) k1
      rwa [← e] at this
    · rw [← hd, List.drop_drop]
theorem mkR_rel {f : Nat} {F : List Value → List Value} {xs : List SE} {rs : List Value} (h : F (denL xs) = rs) {r : RS} (hk : KindsL r.kinds rs) : VRel ρ (mkR f F xs r) (r.pack rs) := by
  cases r with
  | one p =>
    have := mkP_rel (ρ := ρ) (f := f) h (p := p) (j := 0) (vs := rs) (rest := []) (by simp) hk
    rw [List.append_nil] at this
    exact this
  | tup ps => exact ⟨_, rfl, mkPs_rel h (by simp) hk⟩
end

/-! What is kept. -/
theorem HRel.below {B : Nat} {ρ : Rho} {H : List (Nat × Blk)} {w w' : World} (h : HRel B ρ H w) (hb : Below w.heap.size w w') : HRel B ρ H w' :=
  ⟨fun n x hx => Nat.lt_of_lt_of_le (h.lt n x hx) hb.size, h.inj, fun n b x hn hx => by
    obtain ⟨h1, h2, h3, h4⟩ := h.blk n b x hn hx
    exact ⟨h1, h2, by rw [hb.block x (h.lt n x hx)]; exact h3, h4⟩⟩

structure StRel (B : Nat) (w0 : World) (ρ : Rho) (s : St) (a : Act) (w : World) : Prop where
  tmps : VsRel ρ s.T a.tmps.toList
  mem : HRel B ρ s.H w
  below : Below B w0 w
  fresh : ∀ n, s.nx ≤ n → ρ n = none
  names : ∀ n b, find s.H n = some b → n < s.nx
  defers : a.defers = []

theorem getD_of {xs : Array Value} {t : Nat} {v : Value} (h : xs[t]? = some v) : xs.getD t undef = v := by
  obtain ⟨hl, rfl⟩ := Array.getElem?_eq_some_iff.1 h
  simp [Array.getD, hl]

theorem lookT_rel {ρ : Rho} {T : List SV} {a : Act} (h : VsRel ρ T a.tmps.toList) : ∀ x sv, lookT T x = some sv → VRel ρ sv (a.eval x) := by
  intro x sv hx
  cases x with
  | tmp t =>
    simp only [lookT] at hx
    obtain ⟨v, hv, hr⟩ := h.get hx
    have e : a.eval (.tmp t) = v := getD_of (by simpa using hv)
    rw [e]
    exact hr
  | const v => exact ofConst_rel hx
  | global g => simp [lookT] at hx
  | func f => simp [lookT] at hx; subst hx; exact ⟨[], trivial, rfl⟩

theorem put_tmps {ρ : Rho} {T : List SV} {a : Act} (h : VsRel ρ T a.tmps.toList) {sv : SV} {v : Value} (hv : VRel ρ sv v) (dst : Option Tmp) : VsRel ρ (putT T dst sv) (a.put dst v).tmps.toList := by
  cases dst with
  | none => exact h
  | some d => simpa [putT, Act.put] using h.set d hv
theorem put_defers {a : Act} (dst : Option Tmp) (v : Value) (h : a.defers = []) : (a.put dst v).defers = [] := by cases dst <;> simpa [Act.put] using h

/-- A new block under a new name. -/
def newRho (ρ : Rho) (n x : Nat) : Rho := fun m => if m = n then some x else ρ m
theorem newRho_ext {ρ : Rho} {n x : Nat} (h : ρ n = none) : Ext ρ (newRho ρ n x) := fun m y hm => by
  simp only [newRho]
  split
  · rename_i e; subst e; rw [h] at hm; cases hm
  · exact hm

theorem HRel.alloc {B : Nat} {ρ : Rho} {H : List (Nat × Blk)} {w : World} (h : HRel B ρ H w) {n : Nat} (hn : ρ n = none) (hB : B ≤ w.heap.size) {cs : List SC} {vs : List Value} (t : TypeId) (hc : CsRel ρ cs vs) :
    HRel B (newRho ρ n w.heap.size) ((n, ⟨cs, t, true⟩) :: H) (w.alloc (.cells vs.toArray t)) := by
  have hx := newRho_ext (x := w.heap.size) hn
  refine ⟨fun m x hm => ?_, fun m k x hm hk => ?_, fun m b x hb hm => ?_⟩
  · simp only [newRho] at hm
    simp only [World.size_alloc]
    split at hm
    · simp at hm; omega
    · have := h.lt m x hm; omega
  · simp only [newRho] at hm hk
    split at hm <;> split at hk
    · rename_i e1 e2; rw [e1, e2]
    · simp at hm; subst hm; have := h.lt k _ hk; omega
    · simp at hk; subst hk; have := h.lt m _ hm; omega
    · exact h.inj m k x hm hk
  · simp only [find] at hb
    simp only [newRho] at hm
    split at hb
    · rename_i e
      have e := beq_len e
      subst e
      simp at hb hm
      subst hb hm
      refine ⟨fun _ => hB, vs, ?_, hc.mono hx⟩
      show (w.heap.push _)[w.heap.size]? = _
      simp
    · rename_i e
      rw [if_neg (fun e2 => by subst e2; simp at e)] at hm
      obtain ⟨h1, h2, h3, h4⟩ := h.blk m b x hb hm
      refine ⟨h1, h2, ?_, h4.mono hx⟩
      have hl := h.lt m x hm
      rw [Below.heap_alloc _ _ _ hl]
      exact h3

theorem wantS_spec {ρ : Rho} {T : List SV} {a : Act} {ops : Array Oper} {o : Oper} {b : Bool} (h : VsRel ρ T a.tmps.toList) (hw : wantS ops T o = some b) : Region.wanted o (yielded ops a.tmps) = b := by
  unfold wantS at hw
  unfold Region.wanted
  split at hw
  · rename_i hg; simp at hw; simp [hg, hw]
  · rename_i j want hg
    simp only [hg]
    split at hw
    · simp at hw
    · rename_i d hd
      unfold yielded
      simp only [hd, Option.bind_some]
      split at hw
      · rename_i c hT
        obtain ⟨v, hv, hr⟩ := h.get hT
        have e : v = .bool c := hr.1
        have : a.tmps[d]? = some (.bool c) := by rw [← e]; simpa using hv
        simp at hw
        simp [this, ← hw]
      · rename_i hT
        obtain ⟨v, hv, vs, e, hr⟩ := h.get hT
        have : a.tmps[d]? = some v := by simpa using hv
        simp at hw
        simp [this, e, ← hw]
      · simp at hw

theorem part_spec {ρ : Rho} {u : Bool} {v v' : SV} {x : Value} (h : (Go.Proofs.YtiooegkbkahppaaDoor.part u v).den = some v') (hr : VRel ρ v x) : VRel ρ v' x := by
  unfold Go.Proofs.YtiooegkbkahppaaDoor.part at h
  split at h
  · split at h
    · simp [Tree.den] at h; subst h; exact hr
    · split at h
      · rename_i hk
        obtain ⟨b, rfl, db⟩ := erel_bool (ρ := ρ) hr hk
        simp only [Tree.den, db, tru] at h
        cases b with
        | true => simp at h; subst h; exact ⟨rfl, .b, rfl, _, rfl⟩
        | false => simp at h; subst h; exact ⟨rfl, .b, rfl, _, rfl⟩
      · simp [Tree.den] at h; subst h; exact hr
    · simp [Tree.den] at h; subst h; exact hr
  · simp [Tree.den] at h; subst h; exact hr

/-! Results. -/
def resVar (tmps : Array Value) : ResultVar → Sem Value
  | .tmp t => pure (tmps.getD t undef)
  | .cell a t => do loadVar t (← asAddr (tmps.getD a undef))
theorem results_eq (fn : Func) (tmps : Array Value) : results fn tmps = (fn.results.mapM (resVar tmps) >>= fun vs => pure (if h : vs.size = 1 then vs[0] else .tuple vs)) := rfl
theorem run_results {P : Program} {B : Nat} {ρ : Rho} {s : St} {w : World} {tmps : Array Value} (hT : VsRel ρ s.T tmps.toList) (hH : HRel B ρ s.H w) : ∀ (l : List ResultVar) (xs : List SP), resS P s l = some xs →
    ∃ vs : List Value, (l.mapM (resVar tmps)).run P w = .ok vs w ∧ PsRel ρ xs vs
  | [], xs, h => by simp [resS] at h; subst h; exact ⟨[], by simp, trivial⟩
  | .tmp t :: l, xs, h => by
    simp only [resS] at h
    split at h
    · rename_i v r hv hr
      simp at h
      subst h
      obtain ⟨vs, h1, h2⟩ := run_results hT hH l r hr
      obtain ⟨u, hu, hk⟩ := hT.get hv
      have e : tmps.getD t undef = u := getD_of (by simpa using hu)
      refine ⟨u :: vs, ?_, hk, h2⟩
      simp only [List.mapM_cons, Sem.run_bind, resVar, Sem.run_pure, Result.andThen_ok, e]
      rw [h1]
      rfl
    · simp at h
  | .cell a t :: l, xs, h => by
    simp only [resS] at h
    split at h
    · rename_i n off r hv hr
      split at h
      · rename_i b hb
        split at h
        · rename_i v hp
          simp at h
          subst h
          obtain ⟨vs, h1, h2⟩ := run_results hT hH l r hr
          obtain ⟨u, hu, x, hx, hux⟩ := hT.get hv
          have e : tmps.getD a undef = .pointer (some ⟨x, off, none⟩) := by rw [getD_of (by simpa using hu), hux]
          obtain ⟨z, hz, hk⟩ := run_loadVar (P := P) hH hb hx hp
          refine ⟨z :: vs, ?_, hk, h2⟩
          have ea : (resVar tmps (.cell a t)).run P w = .ok z w := by simp only [resVar, Sem.run_bind, e, asAddr, Sem.run_pure, Result.andThen_ok, hz]
          simp only [List.mapM_cons, Sem.run_bind, ea, Result.andThen_ok, h1, Sem.run_pure]
        · simp at h
      · simp at h
    · simp at h
theorem run_resV {P : Program} {B : Nat} {ρ : Rho} {s : St} {w : World} {fn : Func} {tmps : Array Value} {xs : List SP} (hT : VsRel ρ s.T tmps.toList) (hH : HRel B ρ s.H w) (h : resS P s fn.results.toList = some xs) :
    ∃ v, (results fn tmps).run P w = .ok v w ∧ VRel ρ (resV xs) v := by
  obtain ⟨vs, h1, h2⟩ := run_results hT hH _ _ h
  rw [results_eq, Array.mapM_eq_mapM_toList]
  simp only [Sem.run_bind, Sem.run_map, h1, Result.andThen_ok, Sem.run_pure]
  cases xs with
  | nil =>
    cases vs with
    | nil => exact ⟨.tuple #[], by simp, [], rfl, trivial⟩
    | cons v vs => exact h2.elim
  | cons x xs =>
    cases vs with
    | nil => exact h2.elim
    | cons v vs =>
      cases xs with
      | nil =>
        cases vs with
        | nil => exact ⟨v, by simp, h2.1⟩
        | cons u us => exact h2.2.elim
      | cons y ys =>
        cases vs with
        | nil => exact h2.2.elim
        | cons u us => exact ⟨.tuple (v :: u :: us).toArray, by simp, v :: u :: us, rfl, h2⟩
end Go.Proofs.YtiooegkbkahppaaDoor
