/- The symbolic evaluator is sound: code, regions, loops, functions; contracts kept out of sight. No condition. -/
import Derived.Test.YtdioaiepkhepaaaGreatDoorEvA
namespace Go.Proofs.YtdioaiepkhepaaaGreatDoor
open Go.RowKit
theorem getD_of {xs : Array Value} {t : Nat} {v : Value} (h : xs[t]? = some v) : xs.getD t undef = v := by
 obtain ⟨hl, rfl⟩ := Array.getElem?_eq_some_iff.1 h
 simp [Array.getD, hl]
theorem lookT_rel {ρ : Rho} {T : List SV} {a : Act} (h : VsRel ρ T a.tmps.toList) : ∀ x sv, lookT T x = some sv → VRel ρ sv (a.eval x) := by
 intro x sv hx
 cases x with
 | tmp t =>
  simp only [lookT] at hx
  obtain ⟨v, hv, hr⟩ := h.get hx
  have e : a.eval (.tmp t) = v := getD_of (by simpa using hv)
  rw [e]
  exact hr
 | const v => exact ofConst_rel hx
 | global g => simp [lookT] at hx
 | func f => simp [lookT] at hx; subst hx; exact ⟨[], trivial, rfl⟩
theorem put_tmps {ρ : Rho} {T : List SV} {a : Act} (h : VsRel ρ T a.tmps.toList) {sv : SV} {v : Value} (hv : VRel ρ sv v) (dst : Option Tmp) : VsRel ρ (putT T dst sv) (a.put dst v).tmps.toList := by
 cases dst with
 | none => exact h
 | some d => simpa [putT, Act.put] using h.set d hv
theorem put_defers {a : Act} (dst : Option Tmp) (v : Value) (h : a.defers = []) : (a.put dst v).defers = [] := by cases dst <;> simpa [Act.put] using h
theorem wantS_spec {ρ : Rho} {T : List SV} {a : Act} {ops : Array Oper} {o : Oper} {b : Bool} (h : VsRel ρ T a.tmps.toList) (hw : wantS ops T o = some b) : Region.wanted o (yielded ops a.tmps) = b := by
 unfold wantS at hw
 unfold Region.wanted
 split at hw
 ·rename_i hg; simp at hw; simp [hg, hw]
 ·rename_i j want hg
  simp only [hg]
  split at hw
  ·simp at hw
  ·rename_i d hd
   unfold yielded
   simp only [hd, Option.bind_some]
   split at hw
   ·rename_i c hT
    obtain ⟨v, hv, hr⟩ := h.get hT
    have e : v = .bool c := hr.1
    have : a.tmps[d]? = some (.bool c) := by rw [← e]; simpa using hv
    simp at hw
    simp [this, ← hw]
   ·rename_i hT
    obtain ⟨v, hv, vs, e, hr⟩ := h.get hT
    have : a.tmps[d]? = some v := by simpa using hv
    simp at hw
    simp [this, e, ← hw]
   ·simp at hw
theorem part_spec {ρ : Rho} {u : Bool} {v v' : SV} {x : Value} (h : (Go.Proofs.YtdioaiepkhepaaaGreatDoor.part u v).den = some v') (hr : VRel ρ v x) : VRel ρ v' x := by
 unfold Go.Proofs.YtdioaiepkhepaaaGreatDoor.part at h
 split at h
 ·split at h
  ·simp [Tree.den] at h; subst h; exact hr
  ·split at h
   ·rename_i hk
    obtain ⟨b, rfl, db⟩ := erel_bool (ρ := ρ) hr hk
    simp only [Tree.den, db, tru] at h
    cases b with
    | true => simp at h; subst h; exact ⟨rfl, .b, rfl, _, rfl⟩
    | false => simp at h; subst h; exact ⟨rfl, .b, rfl, _, rfl⟩
   ·simp [Tree.den] at h; subst h; exact hr
  ·simp [Tree.den] at h; subst h; exact hr
 ·simp [Tree.den] at h; subst h; exact hr
def resVar (tmps : Array Value) : ResultVar → Sem Value
 | .tmp t => pure (tmps.getD t undef)
 | .cell a t => do loadVar t (← asAddr (tmps.getD a undef))
theorem results_eq (fn : Func) (tmps : Array Value) : results fn tmps = (fn.results.mapM (resVar tmps) >>= fun vs => pure (if h : vs.size = 1 then vs[0] else .tuple vs)) := rfl
theorem run_results {P : Program} {B : Foot} {ρ : Rho} {s : St} {w : World} {tmps : Array Value} (hT : VsRel ρ s.T tmps.toList) (hH : HRel B ρ s.H w) : ∀ (l : List ResultVar) (xs : List SP), resS P s l = some xs →
 ∃ vs : List Value, (l.mapM (resVar tmps)).run P w = .ok vs w ∧ PsRel ρ xs vs
 | [], xs, h => by simp [resS] at h; subst h; exact ⟨[], by simp, trivial⟩
 | .tmp t :: l, xs, h => by
  simp only [resS] at h
  split at h
  ·rename_i v r hv hr
   simp at h
   subst h
   obtain ⟨vs, h1, h2⟩ := run_results hT hH l r hr
   obtain ⟨u, hu, hk⟩ := hT.get hv
   have e : tmps.getD t undef = u := getD_of (by simpa using hu)
   refine ⟨u :: vs, ?_, hk, h2⟩
   simp only [List.mapM_cons, Sem.run_bind, resVar, Sem.run_pure, Result.andThen_ok, e]
   rw [h1]
   rfl
  ·simp at h
 | .cell a t :: l, xs, h => by
  simp only [resS] at h
  split at h
  ·rename_i n off r hv hr
   split at h
   ·rename_i b hb
    split at h
    ·rename_i v hp
     simp at h
     subst h
     obtain ⟨vs, h1, h2⟩ := run_results hT hH l r hr
     obtain ⟨u, hu, x, hx, hux⟩ := hT.get hv
     have e : tmps.getD a undef = .pointer (some ⟨x, off, none⟩) := by rw [getD_of (by simpa using hu), hux]
     obtain ⟨z, hz, hk⟩ := run_loadVar (P := P) hH hb hx hp
     refine ⟨z :: vs, ?_, hk, h2⟩
     have ea : (resVar tmps (.cell a t)).run P w = .ok z w := by simp only [resVar, Sem.run_bind, e, asAddr, Sem.run_pure, Result.andThen_ok, hz]
     simp only [List.mapM_cons, Sem.run_bind, ea, Result.andThen_ok, h1, Sem.run_pure]
    ·simp at h
   ·simp at h
  ·simp at h
theorem run_resV {P : Program} {B : Foot} {ρ : Rho} {s : St} {w : World} {fn : Func} {tmps : Array Value} {xs : List SP} (hT : VsRel ρ s.T tmps.toList) (hH : HRel B ρ s.H w) (h : resS P s fn.results.toList = some xs) :
 ∃ v, (results fn tmps).run P w = .ok v w ∧ VRel ρ (resV xs) v := by
 obtain ⟨vs, h1, h2⟩ := run_results hT hH _ _ h
 rw [results_eq, Array.mapM_eq_mapM_toList]
 simp only [Sem.run_bind, Sem.run_map, h1, Result.andThen_ok, Sem.run_pure]
 cases xs with
 | nil =>
  cases vs with
  | nil => exact ⟨.tuple #[], by simp, [], rfl, trivial⟩
  | cons v vs => exact h2.elim
 | cons x xs =>
  cases vs with
  | nil => exact h2.elim
  | cons v vs =>
   cases xs with
   | nil =>
    cases vs with
    | nil => exact ⟨v, by simp, h2.1⟩
    | cons u us => exact h2.2.elim
   | cons y ys =>
    cases vs with
    | nil => exact h2.2.elim
    | cons u us => exact ⟨.tuple (v :: u :: us).toArray, by simp, v :: u :: us, rfl, h2⟩
def Xt.to : Xt → Exit
 | .normal => .normal
 | .exit id => .exit id
 | .ret => .ret
inductive Sub : Code → Code → Prop where
 | refl (c) : Sub c c
 | seqL {a b c} : Sub (.seq a b) c → Sub a c
 | seqR {a b c} : Sub (.seq a b) c → Sub b c
 | condL {x a b c} : Sub (.cond x a b) c → Sub a c
 | condR {x a b c} : Sub (.cond x a b) c → Sub b c
 | block {i a c} : Sub (.block i a) c → Sub a c
 | loop {a c} : Sub (.loop a) c → Sub a c
 | scope {a c} : Sub (.scope a) c → Sub a c
def RecOK (P : Program) (I : World → Prop) (rec : Rec) : Prop :=
 ∀ f c s x s', Sub c (bodyC P f) → (rec f c s).den = some (x, s') → (s.br = true → s'.br = true) ∧ ∀ (B : Foot) (w0 : World) (ρ : Rho) (a : Act) (w : World) (Q : Exit → Act → World → Prop), B.base ≤ w0.heap.size → (∀ w, BelowF B w0 w → I w) → StRel B w0 ρ s a w →
  (∀ ρ' a' w', (s'.br = false → Ext ρ ρ') → StRel B w0 ρ' s' a' w' → Q x.to a' w') → c.wp P Q a w
section
variable {P : Program} {I : World → Prop} {rec : Rec} (hrec : RecOK P I rec) {B : Foot} {w0 : World} (hB : B.base ≤ w0.heap.size) (hI : ∀ w, BelowF B w0 w → I w)
include hrec hB hI
theorem callF_sound {f : FuncId} {args : List SV} {H H' : List (Nat × Blk)} {nx nx' : Nat} {br : Bool} {sv : SV} (h : (callF rec P f args H nx).den = some (sv, H', nx', br)) {ρ : Rho} {vs : List Value} {w : World} (hv : VsRel ρ args vs) (hW : WRel B w0 ρ H nx w) :
 CallOK P f vs.toArray w fun v w' => ∃ ρ', (br = false → Ext ρ ρ') ∧ VRel ρ' sv v ∧ WRel B w0 ρ' H' nx' w' := by
 unfold callF at h
 split at h
 ·simp [Tree.den] at h
 ·rename_i fn hfn
  split at h
  ·simp [Tree.den] at h
  ·rename_i c hc
   split at h
   ·simp [Tree.den] at h
   ·rename_i hn
    obtain ⟨⟨x, s'⟩, h1, h2⟩ := den_bind_some h
    refine .inl ⟨by simp only [callFunc, Sem.run_bind, run_program, Result.andThen_ok, hfn, if_neg hn, hc, Option.isNone_some, Bool.false_eq_true, if_false, Sem.run_pure], ?_⟩
    refine calls_of_wp hfn hc ?_
    have hsub : Sub c (bodyC P f) := by
     have : bodyC P f = c := by simp [bodyC, hfn, hc]
     rw [this]
     exact .refl c
    refine (hrec f c _ x s' hsub h1).2 B w0 ρ _ w _ hB hI ⟨hW, ?_, rfl⟩ ?_
    ·have hl := hv.length
     simp only [Array.toList_append, Array.toList_replicate, List.size_toArray]
     rw [hl]
     exact hv.append (VsRel.undefs _)
    ·intro ρ' a' w' hx hs
     have fin : ∀ xs, resS P s' fn.results.toList = some xs → (Tree.ret (resV xs, s'.H, s'.nx, s'.br)).den = some (sv, H', nx', br) →
      a'.defers = [] ∧ ∃ v, (results fn a'.tmps).run P w' = .ok v w' ∧ ∃ v', Ending.returned v = .returned v' ∧ ∃ ρ', (br = false → Ext ρ ρ') ∧ VRel ρ' sv v' ∧ WRel B w0 ρ' H' nx' w' := by
      intro xs hxs hd
      simp [Tree.den] at hd
      obtain ⟨rfl, rfl, rfl, rfl⟩ := hd
      obtain ⟨v, hr, hk⟩ := run_resV (P := P) (fn := fn) hs.tmps hs.mem hxs
      exact ⟨hs.defers, v, hr, v, rfl, ρ', hx, hk, hs.toWRel⟩
     cases x with
     | normal =>
      simp only at h2
      split at h2
      ·rename_i xs hxs; exact fin xs hxs h2
      ·simp [Tree.den] at h2
     | exit id => simp [Tree.den] at h2
     | ret =>
      simp only at h2
      split at h2
      ·rename_i xs hxs; exact fin xs hxs h2
      ·simp [Tree.den] at h2
omit hrec hI in
theorem retS_sound {f : FuncId} {F : List Value → List Value} {xs : List SE} {R : RS} {H H' : List (Nat × Blk)} {nx nx' : Nat} {sv : SV} (h : (retS P f F xs R H nx).den = some (sv, H', nx')) {ρ : Rho} {args : Array Value} {w : World} (hW : WRel B w0 ρ H nx w)
 (hc : CallOK P f args w fun v w' => ∃ rs, v = R.pack rs ∧ ResKs P f w w' R.kinds rs (F (denL xs)) ∧ Below w.heap.size w w') : CallOK P f args w fun v w' => ∃ ρ', Ext ρ ρ' ∧ VRel ρ' sv v ∧ WRel B w0 ρ' H' nx' w' := by
 refine hc.mono fun v w' ⟨rs, hv, hk, hb⟩ => ?_
 subst hv
 have hW' := hW.below' hB hb
 unfold retS at h
 split at h
 ·rename_i hp
  have packs : ∀ {ρ' : Rho}, PsRel ρ' (mkPs f F xs nx 0 R.parts) (packL R.parts rs) → VRel ρ' (mkR f F xs nx R) (R.pack rs) := by
   intro ρ' hr
   cases R with
   | one p => exact hr.1
   | tup ps => exact ⟨_, rfl, hr⟩
  have hk' : ResKs P f w w' (kindsL R.parts) rs (F (denL xs)) := by
   cases R with
   | one p => simpa [RS.parts, kindsL, RS.kinds] using hk
   | tup ps => exact hk
  split at h
  ·rename_i ha
   simp [Tree.den] at h
   obtain ⟨rfl, rfl, rfl⟩ := h
   exact ⟨ρ, Ext.refl ρ, packs (mkPs_none ha hp (by simp) hk'), hW'⟩
  ·rename_i j κs ha
   split at h
   ·rename_i e he
    simp [Tree.den] at h
    obtain ⟨rfl, rfl, rfl⟩ := h
    obtain ⟨t, r, d, h1, h2, h3, h4⟩ := mkPs_one (f := f) (n := nx) (F := F) (xs := xs) ha hp (by simp) hk'
    rw [he] at h1
    simp at h1
    subst h1
    obtain ⟨A, es, us, rfl, rfl, q1, q2, q3, q4, q5, q6, q7, q8⟩ := h2
    have hA : ArrOK κs (.app f F j (.l κs) xs) e A w' := ⟨es, us, rfl, q2, by simp only [SE.den, List.getD, h3, Option.getD_some, norm], q1, q3, q4, q5, q6, q7⟩
    obtain ⟨k1, k2⟩ : WRel B w0 (newArr ρ nx A) ((nx, { cells := [], elem := e, own := true, arr := some (κs, .app f F j (.l κs) xs) }) :: delO H none) (nx + 1) w' ∧ Ext ρ (newArr ρ nx A) :=
     hW.arr hB (old := none) (fun n h => by cases h) hA ⟨hb.os, hb.tape, hb.output, hb.size, fun k hk _ => hb.block k hk⟩ (fun g hg => .inl (q8 g hg))
    refine ⟨newArr ρ nx A, k2, packs (h4 _ ⟨A, A.len, by simp [newArr], q4, q5, q3, Nat.le_refl _, fun _ => rfl, (fun x hx => by cases hx), rfl⟩), k1⟩
   ·simp [Tree.den] at h
  ·simp [Tree.den] at h
 ·simp [Tree.den] at h
variable {M : Env} (hM : MOK P I M) {S : List Sum} (hS : ∀ c ∈ S, SumOK P I c)
include hM hS
theorem callS_sound {f : FuncId} {args : List SV} {s : St} {H' : List (Nat × Blk)} {nx' : Nat} {sv : SV} (h : (callS M rec P S s f args).den = some (sv, H', nx')) {ρ : Rho} {vs : List Value} {w : World} (hv : VsRel ρ args vs) (hW : WRel B w0 ρ s.H s.nx w) :
 CallOK P f vs.toArray w fun v w' => ∃ ρ', Ext ρ ρ' ∧ VRel ρ' sv v ∧ WRel B w0 ρ' H' nx' w' := by
 unfold callS at h
 split at h
 ·rename_i c hc
  obtain ⟨hmem, rfl⟩ := findS_spec hc
  split at h
  ·rename_i xs hxs
   obtain ⟨us, rfl, hk⟩ := flatL_sound (LRel.of hW.mem hW.ext) (fun _ _ => trivial) hxs hv
   exact retS_sound hB h hW (hS c hmem _ _ w (hI w hW.below) hk)
  ·simp [Tree.den] at h
 ·split at h
  ·rename_i c xs hc
   obtain ⟨hmem, rfl, hxs⟩ := pickC_spec hc
   obtain ⟨h1, h2⟩ := guard_den h
   obtain ⟨us, rfl, hk⟩ := flatL_sound (LRel.of hW.mem hW.ext) (fun _ _ => trivial) hxs hv
   exact retS_sound hB h2 hW (hM.sums c hmem _ _ w (hI w hW.below) hk h1)
  ·split at h
   ·rename_i t ht
    cases hfl : findL M.ls f 99999 with
    | none => rw [hfl] at ht; simp at ht
    | some c =>
     rw [hfl] at ht
     simp only [Option.bind_some] at ht
     obtain ⟨hmem, rfl, hkey⟩ := findL_spec hfl
     exact callB_sound hB hI (hM.bodies c hmem hkey) ht h hv hW
   obtain ⟨⟨sv', H2, nx2, br⟩, h1, h2⟩ := den_bind_some h
   simp only at h2
   split at h2
   ·simp [Tree.den] at h2
   ·rename_i hbr
    simp [Tree.den] at h2
    obtain ⟨rfl, rfl, rfl⟩ := h2
    exact (callF_sound hrec hB hI h1 hv hW).mono fun v w' ⟨ρ', q1, q2, q3⟩ => ⟨ρ', q1 (by simpa using hbr), q2, q3⟩
omit hrec hB hI hM hS in
theorem CallOK.upon {f : FuncId} {args : Array Value} {w : World} {R : Value → World → Prop} {o : Oper} {a : Act} {K : Act → World → Prop} {Q : Exit → Act → World → Prop} (h : CallOK P f args w R)
 (hk : ∀ v w', R v w' → K (a.put o.dst v) w') : o.upon P a K Q ((callFunc f args).run P w) := by
 rcases h with ⟨h1, h2⟩ | ⟨v, h1, h2⟩
 ·rw [h1]
  exact h2.mono fun e w' ⟨v, he, hr⟩ => by subst he; exact hk v w' hr
 ·rw [h1]
  exact hk v w h2
omit hrec hB hI hM hS in
theorem caps_rel {ρ : Rho} : ∀ {caps : List Cap} {cs : List Value}, CapsRel ρ caps cs → VsRel ρ (capsS caps) cs
 | [], [], _ => trivial
 | .p _ _ :: _, _ :: _, h => ⟨h.1, caps_rel h.2⟩
 | .q _ _ :: _, _ :: _, h => ⟨h.1, caps_rel h.2⟩
 | [], _ :: _, h => h.elim
 | _ :: _, [], h => h.elim
omit hrec hB hI hM hS in
theorem nil_sound {e : Operand → Value} {ρ : Rho} {H : List (Nat × Blk)} {w : World} {o : Oper} {t : TypeId} {κs : List SK} (h : nilLit P o.op = some (t, κs)) : Eff P B ρ H w (execOp e o) (.arr none (nilE κs) κs t) := by
 unfold nilLit at h
 split at h
 ·rename_i ty parts hop
  split at h
  ·rename_i hpe
   split at h
   ·rename_i el hu
    split at h
    ·rename_i sz ks hsz hks
     simp only [Option.some.injEq, Prod.mk.injEq] at h
     obtain ⟨rfl, rfl⟩ := h
     have hparts : parts = #[] := by simpa using hpe
     subst hparts
     refine ⟨⟨some w.heap.size, 0, 0⟩, w.alloc (.cells #[] el), ?_, ⟨[], [], rfl, plainT_pl hks, rfl, rfl, (fun e => by cases e), Nat.le_refl _, Nat.zero_le _, rfl, ?_⟩, World.grownBy_alloc w _ none, (fun g hg => by simp at hg; subst hg; exact .inl (Nat.le_refl _)), fun n h => by cases h⟩
     ·simp [execOp, hop, Instr.buildSlice, run_underlying hu, run_size hsz, Instr.fill, newRow]
      rw [show (Array.range 0) = #[] from rfl, Array.map_empty]
     ·have := World.ownsRow_lit (base := 0) (e := el) (size := ks.length) w #[] 0 (Nat.zero_le _) (Nat.zero_le _) (by simp)
      simpa using this
    ·simp at h
   ·simp at h
  ·simp at h
 ·simp at h
omit hrec hB hI hM hS in
theorem opStep_sound {g : Get} {e : Operand → Value} {ρ : Rho} {H : List (Nat × Blk)} {nx : Nat} {w : World} (hg : ∀ x sv, g x = some sv → VRel ρ sv (e x)) (hW : WRel B w0 ρ H nx w) {o : Oper} {r : Res} (h : (opStep P H g o.op).den = some r) : Eff P B ρ H w (execOp e o) r := by
 unfold opStep at h
 split at h
 ·rename_i t ht
  obtain ⟨sv, rfl, v, h1, h2⟩ := ro_sound hg hW.ext.mem ht h
  exact ⟨v, h1, h2⟩
 ·split at h
  ·unfold bigStep at h
   split at h
   ·rename_i t κs hn
    simp [Tree.den] at h
    subst h
    exact nil_sound hn
   ·split at h
    ·rename_i cs t len hp
     split at h
     ·rename_i κs hκ
      split at h
      ·rename_i xs hx
       split at h
       ·rename_i hc
        simp only [Bool.and_eq_true] at hc
        simp [Tree.den] at h
        subst h
        obtain ⟨vs, hr, hv⟩ := pure_sound hg hW.mem (show (pureStep P H g o.op).den = some (.sl cs t len) by rw [hp]; rfl)
        exact lit_sound (plainT_pl hκ) (Nat.le_of_ble_eq_true hc.1) hx hr hv
       ·simp [Tree.den] at h
      ·simp [Tree.den] at h
     ·simp [Tree.den] at h
    ·simp [Tree.den] at h
  split at h
  ·rename_i hop
   exact ar_sound hg hW.mem hW.ext hop h
  ·exact pure_sound hg hW.mem h
theorem opS_sound {u : Bool} {o : Oper} {s s' : St} (h : (opS M rec P S u o s).den = some s') {ρ : Rho} {a : Act} {w : World} (hs : StRel B w0 ρ s a w) {K : Act → World → Prop} {Q : Exit → Act → World → Prop}
 (hK : ∀ ρ' v w', Ext ρ ρ' → StRel B w0 ρ' s' (a.put o.dst v) w' → K (a.put o.dst v) w') : o.wp P a w K Q := by
 have hg := lookT_rel hs.tmps
 unfold opS at h
 split at h
 ·rename_i f args ats hop
  split at h
  ·rename_i f' caps vs hf hvs
   obtain ⟨⟨sv, H', nx'⟩, h1, h2⟩ := den_bind_some h
   obtain ⟨v', h3, h4⟩ := den_bind_some h2
   simp [Tree.den] at h4
   subst h4
   obtain ⟨cs, hcaps, ef⟩ := hg _ _ hf
   have hvr := getSs_rel (ρ := ρ) (e := a.eval) hg _ _ hvs
   have hc := callS_sound hrec hB hI hM hS h1 (hvr.append (caps_rel hcaps)) hs.toWRel
   have hx : (execOp a.eval o).run P w = (callFunc f' ((args.toList.map a.eval) ++ cs).toArray).run P w := by
    have e : ((args.toList.map a.eval) ++ cs).toArray = args.map a.eval ++ cs.toArray := by apply Array.ext'; simp
    rw [e]
    simp [execOp, hop, resolve, ef, Deferred.ofValue, invoke]
   unfold Oper.wp
   rw [hx]
   refine hc.upon fun v w' ⟨ρ', hx', hv, hW'⟩ => ?_
   exact hK ρ' _ w' hx' ⟨hW', put_tmps (VsRel.mono hx' hs.tmps) (part_spec h3 hv) o.dst, put_defers _ _ hs.defers⟩
  ·simp [Tree.den] at h
 ·obtain ⟨r, h1, h2⟩ := den_bind_some h
  have he := opStep_sound hg hs.toWRel h1
  unfold Oper.wp
  cases r with
  | val v =>
   obtain ⟨x, hr, hv⟩ := he
   rw [hr]
   simp only [fin] at h2
   obtain ⟨v', h3, h4⟩ := den_bind_some h2
   simp [Tree.den] at h4
   subst h4
   exact hK ρ _ w (Ext.refl ρ) ⟨hs.toWRel, put_tmps hs.tmps (part_spec h3 hv) o.dst, put_defers _ _ hs.defers⟩
  | blk cs t =>
   obtain ⟨vs, hr, hv⟩ := he
   rw [hr]
   simp [fin, Tree.den] at h2
   subst h2
   obtain ⟨hW', hx⟩ := hs.toWRel.alloc hB t hv
   exact hK _ _ _ hx ⟨hW', put_tmps (sv := .p (.c (.p s.nx 0))) (VsRel.mono hx hs.tmps) ⟨w.heap.size, by simp [newRho], rfl⟩ o.dst, put_defers _ _ hs.defers⟩
  | sl cs t len =>
   obtain ⟨vs, hr, hv⟩ := he
   rw [hr]
   simp [fin, Tree.den] at h2
   subst h2
   obtain ⟨hW', hx⟩ := hs.toWRel.alloc hB t hv
   exact hK _ _ _ hx ⟨hW', put_tmps (sv := .p (.c (.sl s.nx 0 len len))) (VsRel.mono hx hs.tmps) ⟨w.heap.size, by simp [newRho], rfl⟩ o.dst, put_defers _ _ hs.defers⟩
  | st n cs off new =>
   obtain ⟨w', hr, hH', hb', _, x, b, hx, hb, ho⟩ := he
   rw [hr]
   simp [fin, Tree.den] at h2
   subst h2
   refine hK ρ _ w' (Ext.refl ρ) ⟨⟨hH', hs.ext.store hb hx _ ho, hs.below.trans hb', hs.fresh, hs.fra, fun m b hf => ?_⟩, put_tmps hs.tmps undef_rel o.dst, put_defers _ _ hs.defers⟩
   rcases find_upd s.H n m _ b hf with ⟨rfl, b0, h0, _⟩ | ⟨_, h0⟩
   ·exact hs.names _ b0 h0
   ·exact hs.names m b h0
  | arr old c κs t =>
   obtain ⟨A, w', hr, hA, hgr, hnew, hold⟩ := he
   rw [hr]
   simp [fin, Tree.den] at h2
   subst h2
   obtain ⟨hW', hx⟩ := hs.toWRel.arr hB hold hA hgr hnew
   obtain ⟨es, us, _, _, _, _, q5, q6, q7, _⟩ := hA
   exact hK _ _ _ hx ⟨hW', put_tmps (sv := .p (.c (.ar s.nx none))) (VsRel.mono hx hs.tmps) ⟨A, A.len, by simp [newArr], q6, q7, q5, Nat.le_refl _, fun _ => rfl, (fun x hx => by cases hx), rfl⟩ o.dst, put_defers _ _ hs.defers⟩
  | sta n c κs =>
   obtain ⟨w', A, g, b, hr, hn, hgA, hb, hba, hown, hA, hgr, _⟩ := he
   rw [hr]
   simp [fin, Tree.den] at h2
   subst h2
   exact hK ρ _ w' (Ext.refl ρ) ⟨hs.toWRel.sta hB hn hgA hb hba hown hA hgr, put_tmps hs.tmps undef_rel o.dst, put_defers _ _ hs.defers⟩
theorem evOps_sound {ops : Array Oper} : ∀ (l : List Oper) (i : Nat) {s s' : St}, (evOps M rec P S ops i l s).den = some s' → ∀ {ρ : Rho} {a : Act} {w : World}, StRel B w0 ρ s a w → ∀ {Q : Exit → Act → World → Prop},
 (∀ ρ' a' w', Ext ρ ρ' → StRel B w0 ρ' s' a' w' → Q .normal a' w') → wpList P ops Q l a w
 | [], i, s, s', h, ρ, a, w, hs, Q, hQ => by
  simp [evOps, Tree.den] at h
  subst h
  exact hQ ρ a w (Ext.refl ρ) hs
 | o :: l, i, s, s', h, ρ, a, w, hs, Q, hQ => by
  simp only [evOps] at h
  split at h
  ·simp [Tree.den] at h
  ·rename_i hw
   have hw := wantS_spec hs.tmps hw
   unfold wpList
   rw [hw]
   exact evOps_sound l (i + 1) h ⟨hs.toWRel, put_tmps hs.tmps undef_rel o.dst, put_defers _ _ hs.defers⟩ hQ
  ·rename_i hw
   have hw := wantS_spec hs.tmps hw
   obtain ⟨s1, h1, h2⟩ := den_bind_some h
   unfold wpList
   rw [hw]
   simp only [if_true]
   exact .inl (opS_sound hrec hB hI hM hS h1 hs fun ρ' _ w' hx hs' => evOps_sound l (i + 1) h2 hs' fun ρ2 a2 w2 hx2 hs2 => hQ ρ2 a2 w2 (hx.trans hx2) hs2)
end
end Go.Proofs.YtdioaiepkhepaaaGreatDoor
namespace Go.Proofs.YtdioaiepkhepaaaGreatDoor
open Go.RowKit
section
variable {g g' : Get}
theorem getE_congr {x : Operand} (h : g x = g' x) : getE g x = getE g' x := by unfold getE; rw [h]
theorem getP_congr {x : Operand} (h : g x = g' x) : getP g x = getP g' x := by unfold getP; rw [h]
theorem getA_congr {x : Operand} (h : g x = g' x) : getA g x = getA g' x := by unfold getA; rw [h]
theorem getSl_congr {x : Operand} (h : g x = g' x) : getSl g x = getSl g' x := by unfold getSl; rw [h]
theorem getPs_congr : ∀ (l : List (Nat × Operand)), (∀ x ∈ l.map (·.2), g x = g' x) → getPs g l = getPs g' l
 | [], _ => rfl
 | (i, x) :: l, h => by
  simp only [getPs]
  rw [getP_congr (h x (by simp)), getPs_congr l fun y hy => h y (by simp at hy ⊢; exact .inr hy)]
theorem getC_congr {x : Operand} (h : g x = g' x) : getC g x = getC g' x := by unfold getC; rw [h]
theorem getCaps_congr : ∀ (l : List Operand), (∀ x ∈ l, g x = g' x) → getCaps g l = getCaps g' l
 | [], _ => rfl
 | x :: l, h => by
  simp only [getCaps]
  rw [h x (by simp), getCaps_congr l fun y hy => h y (by simp [hy])]
theorem getSs_congr : ∀ (l : List Operand), (∀ x ∈ l, g x = g' x) → getSs g l = getSs g' l
 | [], _ => rfl
 | x :: l, h => by
  simp only [getSs]
  rw [h x (by simp), getSs_congr l fun y hy => h y (by simp [hy])]
theorem foldE_congr (F : SE → SE → SE) (k : IntKind) : ∀ (l : List Operand) (acc : SE), (∀ x ∈ l, g x = g' x) → foldE F k g acc l = foldE F k g' acc l
 | [], _, _ => rfl
 | x :: l, acc, h => by
  simp only [foldE]
  rw [getE_congr (h x (by simp))]
  split
  ·split
   ·split
    ·exact foldE_congr F k l _ fun y hy => h y (by simp [hy])
    ·rfl
   ·rfl
  ·rfl
theorem minmax_congr (mk : IntKind → SE → SE → SE) (l : List Operand) (h : ∀ x ∈ l, g x = g' x) : minmax mk g l = minmax mk g' l := by
 cases l with
 | nil => rfl
 | cons x l =>
  simp only [minmax]
  rw [getE_congr (h x (by simp))]
  split
  ·split
   ·rw [foldE_congr _ _ l _ fun y hy => h y (by simp [hy])]
   ·rfl
  ·rfl
theorem pure_congr {P : Program} {H : List (Nat × Blk)} {op : Op} (h : ∀ x ∈ op.operands, g x = g' x) : pureStep P H g op = pureStep P H g' op := by
 cases op <;> simp only [Op.operands] at h <;> try (simp only [pureStep]; done)
 case move x => simp only [pureStep]; rw [h x (by simp)]
 case assign x => simp only [pureStep]; rw [h x (by simp)]
 case pick c a b => simp only [pureStep]; rw [getE_congr (h c (by simp)), h a (by simp), h b (by simp)]
 case box t x => simp only [pureStep]; rw [getP_congr (h x (by simp))]
 case build t ps => simp only [pureStep]; rw [getPs_congr ps.toList (by simpa using h)]
 case load t x => simp only [pureStep]; rw [getA_congr (h x (by simp))]
 case store t x y => simp only [pureStep]; rw [getA_congr (h x (by simp)), getP_congr (h y (by simp))]
 case nilCheck x => simp only [pureStep]; rw [h x (by simp)]
 case binOp op t x y yt => simp only [pureStep]; rw [getP_congr (h x (by simp)), getP_congr (h y (by simp))]
 case unOp op t x => cases op <;> simp only [pureStep] <;> rw [getE_congr (h x (by simp))]
 case convert s d x => simp only [pureStep]; rw [getE_congr (h x (by simp))]
 case fieldAddr s x f => simp only [pureStep]; rw [getA_congr (h x (by simp))]
 case field s x f => simp only [pureStep]; rw [getP_congr (h x (by simp))]
 case indexAddr s x f => simp only [pureStep]; rw [getA_congr (h x (by simp)), getE_congr (h f (by simp)), getSl_congr (h x (by simp))]
 case buildSlice t n ps => simp only [pureStep]; rw [getPs_congr ps.toList (by simpa using h)]
 case index s x f => simp only [pureStep]; rw [getP_congr (h x (by simp)), getE_congr (h f (by simp))]
 case extract x i => simp only [pureStep]; rw [h x (by simp)]
 case makeFunc f first caps => cases f <;> simp only [pureStep]; rw [getCaps_congr caps.toList fun x hx => h x (by simp at hx ⊢; exact .inr hx)]
 case call c =>
  have ha : ∀ x ∈ c.args.toList, g x = g' x := fun x hx => h x (by simp [Call.operands] at hx ⊢; exact .inr hx)
  simp only [pureStep]
  rw [minmax_congr mkMn _ ha, minmax_congr mkMx _ ha]
  split
  ·rfl
  ·rfl
  ·split
   ·rename_i t x _ hx
    rw [getSl_congr (ha x (by rw [hx]; simp))]
   ·rfl
  ·rfl
theorem ro_congr {P : Program} {op : Op} (h : ∀ x ∈ op.operands, g x = g' x) : roStep P g op = roStep P g' op := by
 cases op <;> simp only [Op.operands] at h <;> try (simp only [roStep]; done)
 case load t x => simp only [roStep]; rw [getC_congr (h x (by simp))]
 case nilCheck x => simp only [roStep]; rw [getC_congr (h x (by simp))]
 case binOp op t x y yt => simp only [roStep]; rw [getC_congr (h x (by simp)), getC_congr (h y (by simp))]
 case fieldAddr s x f => simp only [roStep]; rw [getC_congr (h x (by simp))]
 case indexAddr s x f => simp only [roStep]; rw [getC_congr (h x (by simp)), getE_congr (h f (by simp))]
 case slice t x lo hi mx =>
  simp only [roStep]
  rw [getC_congr (h x (by simp))]
  have he : ∀ y, hi = some y → getE g y = getE g' y := fun y hy => by subst hy; exact getE_congr (h y (by simp))
  split
  ·congr 1
   split
   ·rw [he _ rfl]
   ·rfl
  ·rfl
 case call c =>
  have ha : ∀ x ∈ c.args.toList, g x = g' x := fun x hx => h x (by simp [Call.operands] at hx ⊢; exact .inr hx)
  simp only [roStep]
  split
  ·split
   ·rename_i t x _ hx
    rw [getC_congr (ha x (by rw [hx]; simp))]
   ·rfl
  ·rfl
theorem pure_heap {P : Program} {H H' : List (Nat × Blk)} {o : Oper} (hl : ∀ t x n, (o.op = .load t x ∨ ∃ y, o.op = .store t x y) → (getA g x).map (·.1) = some n → find H n = find H' n) :
 pureStep P H g o.op = pureStep P H' g o.op := by
 generalize o.op = op at hl
 cases op <;> try (simp only [pureStep]; done)
 case load t x =>
  simp only [pureStep]
  cases ha : getA g x with
  | none => rfl
  | some p =>
   obtain ⟨n, off⟩ := p
   have e := hl t x n (.inl rfl) (by rw [ha]; rfl)
   simp only [e]
 case store t x y =>
  simp only [pureStep]
  cases ha : getA g x with
  | none => rfl
  | some p =>
   obtain ⟨n, off⟩ := p
   have e := hl t x n (.inr ⟨y, rfl⟩) (by rw [ha]; rfl)
   cases getP g y with
   | none => rfl
   | some v => simp only [e]
 case unOp op t x => cases op <;> simp only [pureStep]
 case makeFunc f a b => cases f <;> simp only [pureStep]
end
end Go.Proofs.YtdioaiepkhepaaaGreatDoor
namespace Go.Proofs.YtdioaiepkhepaaaGreatDoor
open Go.RowKit
def BRel (B : Foot) (ρ : Rho) (w : World) (n : Nat) (b : Blk) : Prop :=
 ∀ x, ρ n = some x → (b.own = true → B.has x) ∧ ∃ vs : List Value, w.heap[x]? = some (.cells vs.toArray b.elem (0, 0)) ∧ CsRel ρ b.cells vs
structure NRel (ρ : Rho) (w : World) : Prop where
 lt : ∀ n x, ρ n = some x → x < w.heap.size
 inj : ∀ n m x, ρ n = some x → ρ m = some x → n = m
theorem HRel.names {B : Foot} {ρ : Rho} {H : List (Nat × Blk)} {w : World} (h : HRel B ρ H w) : NRel ρ w := ⟨h.lt, h.inj⟩
theorem BRel.below {B : Foot} {ρ : Rho} {w w' : World} {n : Nat} {b : Blk} (h : BRel B ρ w n b) (hn : NRel ρ w) (hb : Below w.heap.size w w') : BRel B ρ w' n b := fun x hx => by
 obtain ⟨h1, vs, h2, h3⟩ := h x hx
 exact ⟨h1, vs, by rw [hb.block x (hn.lt n x hx)]; exact h2, h3⟩
theorem NRel.below {ρ : Rho} {w w' : World} (hn : NRel ρ w) (hb : w.heap.size ≤ w'.heap.size) : NRel ρ w' := ⟨fun n x h => Nat.lt_of_lt_of_le (hn.lt n x h) hb, hn.inj⟩
theorem NRel.alloc {ρ : Rho} {w : World} (hr : NRel ρ w) {n : Nat} (o : Obj) : NRel (newRho ρ n w.heap.size) (w.alloc o) := by
 refine ⟨fun m x hm => ?_, fun m k x hm hk => ?_⟩
 ·simp only [newRho] at hm
  simp only [World.size_alloc]
  split at hm
  ·simp at hm; omega
  ·have := hr.lt m x hm; omega
 ·simp only [newRho] at hm hk
  split at hm <;> split at hk
  ·rename_i e1 e2; rw [e1, e2]
  ·simp at hm; subst hm; have := hr.lt k _ hk; omega
  ·simp at hk; subst hk; have := hr.lt m _ hm; omega
  ·exact hr.inj m k x hm hk
theorem BRel.alloc_old {B : Foot} {ρ : Rho} {w : World} {n m : Nat} {b : Blk} (h : BRel B ρ w m b) (hr : NRel ρ w) (hn : ρ n = none) (hne : m ≠ n) (o : Obj) : BRel B (newRho ρ n w.heap.size) (w.alloc o) m b := fun x hx => by
 simp only [newRho] at hx
 rw [if_neg hne] at hx
 obtain ⟨h1, vs, h2, h3⟩ := h x hx
 exact ⟨h1, vs, by rw [Below.heap_alloc _ _ _ (hr.lt m x hx)]; exact h2, h3.mono (newRho_ext hn)⟩
theorem BRel.alloc_new {B : Foot} {ρ : Rho} {w : World} {n : Nat} (hn : ρ n = none) (hB : B.base ≤ w.heap.size) {cs : List SC} {vs : List Value} {t : TypeId} (hc : CsRel ρ cs vs) : BRel B (newRho ρ n w.heap.size) (w.alloc (.cells vs.toArray t)) n { cells := cs, elem := t, own := true } := fun x hx => by
 simp only [newRho] at hx
 simp at hx
 subst hx
 refine ⟨fun _ => .inl hB, vs, ?_, hc.mono (newRho_ext hn)⟩
 show (w.heap.push _)[w.heap.size]? = _
 simp
theorem find_upd_self : ∀ (H : List (Nat × Blk)) {H2 : List (Nat × Blk)} (n : Nat) (cs : List SC), find H n = find H2 n → find (upd H n cs) n = find (upd H2 n cs) n := by
 have key : ∀ (H : List (Nat × Blk)) (n : Nat) (cs : List SC), find (upd H n cs) n = (find H n).map fun b => { b with cells := cs } := by
  intro H n cs
  induction H with
  | nil => rfl
  | cons p H ih =>
   obtain ⟨m, x⟩ := p
   simp only [upd]
   cases hmn : Nat.beq m n with
   | true => simp [find, hmn]
   | false => simp [find, hmn, ih]
 intro H H2 n cs h
 rw [key, key, h]
theorem vE_val {x : SE} {r : Res} (h : (vE x).den = some r) : ∃ v, r = .val v := ⟨_, vE_some h⟩
theorem ite_val {c : SE} {t f : Tree Res} {r : Res} (ht : t.den = some r → ∃ v, r = .val v) (hf : f.den = some r → ∃ v, r = .val v) (h : (Tree.ite c t f).den = some r) : ∃ v, r = .val v := by
 simp only [Tree.den] at h
 cases hc : tru c.den with
 | true => rw [hc] at h; exact ht h
 | false => rw [hc] at h; exact hf h
theorem fail_val {r : Res} (h : (Tree.fail : Tree Res).den = some r) : ∃ v, r = .val v := by simp [Tree.den] at h
theorem binE_val {op : BinOp} {k k' : IntKind} {a b : SE} {r : Res} (h : (binE op k k' a b).den = some r) : ∃ v, r = .val v := by
 unfold binE at h
 split at h <;> (repeat' (split at h)) <;> first
  | exact vE_val h
  | exact fail_val h
  | exact ite_val fail_val vE_val h
theorem binStep_val {P : Program} {op : BinOp} {t : TypeId} {x y : SP} {r : Res} (h : (binStep P op t x y).den = some r) : ∃ v, r = .val v := by
 unfold binStep at h
 split at h <;> (repeat' (split at h)) <;> first
  | exact vE_val h
  | exact fail_val h
  | exact binE_val h
theorem splitI_res {e : SE} {k : IntKind} {mk : Nat → Tree Res} {r : Res} {p : Prop} (hp : ∀ q, (mk q).den = some r → p) : ∀ (c i : Nat), (splitI e k mk i c).den = some r → p
 | 0, i, h => by simp [splitI, Tree.den] at h
 | c + 1, i, h => by
  simp only [splitI, Tree.den] at h
  generalize tru (SE.cmp .eql e (.lit (.int k i))).den = b at h
  cases b with
  | true => exact hp i h
  | false => exact splitI_res hp c (i + 1) h
theorem atI_res {e : SE} {len : Nat} {mk : Nat → Tree Res} {r : Res} {p : Prop} (hp : ∀ q, (mk q).den = some r → p) (h : (atI e len mk).den = some r) : p := by
 unfold atI at h
 split at h
 ·split at h
  ·exact hp _ h
  ·simp [Tree.den] at h
 ·split at h
  ·exact splitI_res hp _ _ h
  ·simp [Tree.den] at h
theorem minmax_val {mk : IntKind → SE → SE → SE} {g : Get} {l : List Operand} {r : Res} (h : (minmax mk g l).den = some r) : ∃ v, r = .val v := by
 unfold minmax at h
 (repeat' (split at h)) <;> first
   | exact vE_val h
   | exact fail_val h
theorem ret_val {v : SV} {r : Res} (h : (Tree.ret (Res.val v)).den = some r) : ∃ v, r = .val v := by simp [Tree.den] at h; exact ⟨v, h.symm⟩
theorem pure_res {P : Program} {H : List (Nat × Blk)} {g : Get} {op : Op} {r : Res} (h : (pureStep P H g op).den = some r) : (∃ v, r = .val v) ∨ (∃ cs t, r = .blk cs t) ∨ (∃ cs t n, r = .sl cs t n) ∨ ∃ t x y, op = .store t x y := by
 unfold pureStep at h
 split at h
 case h_8 => exact .inr (.inr (.inr ⟨_, _, _, rfl⟩))
 all_goals (repeat' (split at h))
 all_goals first
  | exact .inl (ret_val h)
  | exact .inl (fail_val h)
  | exact .inl (vE_val h)
  | exact .inl (binStep_val h)
  | exact .inl (minmax_val h)
  | exact .inl (ite_val ret_val ret_val h)
  | exact .inl (atI_res (fun q h => ret_val h) h)
  | exact .inl (atI_res (fun q h => by split at h; exact ret_val h; exact fail_val h) h)
  | (simp [Tree.den] at h; exact .inr (.inl ⟨_, _, h.symm⟩))
  | (simp [Tree.den] at h; exact .inr (.inr (.inl ⟨_, _, _, h.symm⟩)))
theorem pure_blk {P : Program} {H : List (Nat × Blk)} {g : Get} {op : Op} {r : Res} (h : (pureStep P H g op).den = some r) (hr : (∃ cs t, r = .blk cs t) ∨ ∃ cs t n, r = .sl cs t n) :
 (∃ t, op = .alloc t) ∨ (∃ t x, op = .box t x) ∨ ∃ t n ps, op = .buildSlice t n ps := by
 have nv : ∀ {p : Prop}, (∃ v, r = .val v) → p := fun ⟨v, hv⟩ => by
  subst hv
  rcases hr with ⟨_, _, h⟩ | ⟨_, _, _, h⟩ <;> cases h
 unfold pureStep at h
 split at h
 case h_4 => exact .inl ⟨_, rfl⟩
 case h_5 => exact .inr (.inl ⟨_, _, rfl⟩)
 case h_18 => exact .inr (.inr ⟨_, _, _, rfl⟩)
 all_goals (repeat' (split at h))
 all_goals first
  | exact nv (ret_val h)
  | exact nv (fail_val h)
  | exact nv (vE_val h)
  | exact nv (binStep_val h)
  | exact nv (minmax_val h)
  | exact nv (ite_val ret_val ret_val h)
  | exact nv (atI_res (fun q h => ret_val h) h)
  | exact nv (atI_res (fun q h => by split at h; exact ret_val h; exact fail_val h) h)
  | (simp [Tree.den] at h; subst h; rcases hr with ⟨_, _, h⟩ | ⟨_, _, _, h⟩ <;> cases h)
section
variable {P : Program} {I : World → Prop} {rec : Rec} {B : Foot} {w0 : World} (hI : ∀ w, BelowF B w0 w → I w) {M : Env} (hM : MOK P I M) {S : List Sum} (hS : ∀ c ∈ S, SumOK P I c)
def Leaves (g : Get) (o : Oper) (s s1 : St) : Prop :=
 (isSt o = false ∧ s1.H = s.H ∧ s1.nx = s.nx) ∨ (isSt o = false ∧ ∃ b, (b.arr = none → accOf s.H g s.nx o = some s.nx) ∧ s1.H = (s.nx, b) :: s.H ∧ s1.nx = s.nx + 1) ∨
   (isSt o = true ∧ s1.nx = s.nx ∧ ∃ n cs, accOf s.H g s.nx o = some n ∧ (∃ b, find s.H n = some b) ∧ s1.H = upd s.H n cs)
def Does (P : Program) (B : Foot) (w0 : World) (o : Oper) (s s1 : St) (v : SV) : Prop :=
 ∀ {ρ : Rho} {a : Act} {w : World} {K : Act → World → Prop} {Q : Exit → Act → World → Prop}, (∀ x ∈ o.op.operands, ∀ sv, lookT s.T x = some sv → VRel ρ sv (a.eval x)) → (∀ a v, ρ.m a = some v → w.cell? a = some v) → NRel ρ w →
  (∀ n b, accOf s.H (lookT s.T) s.nx o = some n → find s.H n = some b → BRel B ρ w n b) → (∀ n b, find s.H n = some b → b.arr ≠ none → (∃ A, ρ.a n = some A) → XRel B ρ [(n, b)] w) → BelowF B w0 w →
  (isSt o = false → ∀ x w', VRel ρ v x → Below w.heap.size w w' → s1.H = s.H → s1.nx = s.nx → K (a.put o.dst x) w') →
  (isSt o = false → ∀ x cs t vs, accOf s.H (lookT s.T) s.nx o = some s.nx → s1.H = (s.nx, { cells := cs, elem := t, own := true }) :: s.H → s1.nx = s.nx + 1 → CsRel ρ cs vs → (ρ s.nx = none → VRel (newRho ρ s.nx w.heap.size) v x) → K (a.put o.dst x) (w.alloc (.cells vs.toArray t))) →
  (isSt o = true → ∀ x w' n, accOf s.H (lookT s.T) s.nx o = some n → VRel ρ v x → (∀ b, find s1.H n = some b → BRel B ρ w' n b) → (∃ z, ρ n = some z ∧ ∀ y, y ≠ z → w'.heap[y]? = w.heap[y]?) → w'.heap.size = w.heap.size → BelowF B w w' → s1.nx = s.nx → K (a.put o.dst x) w') →
  (isSt o = false → ∀ x w' A e κs c, s1.H = (s.nx, { cells := [], elem := e, own := true, arr := some (κs, c) }) :: s.H → s1.nx = s.nx + 1 → ArrOK κs c e A w' → Below w.heap.size w w' → (∀ g, A.g = some g → w.heap.size ≤ g) → VRel (newArr ρ s.nx A) v x → K (a.put o.dst x) w') →
  o.wp P a w K Q
include hI hM hS
omit hI hM hS in
theorem ro_val {g : Get} {op : Op} {t : Tree Res} (h : roStep P g op = some t) {r : Res} (hr : t.den = some r) : ∃ v, r = .val v := by
 have lq : ∀ {t : TypeId} {y : SE} {off : Nat}, (loadQ P t y off).den = some r → ∃ v, r = .val v := fun h => by
  unfold loadQ at h
  (repeat' (split at h)) <;> first
    | exact ret_val h
    | exact fail_val h
 have fq : ∀ {s : TypeId} {f : Nat} {mk : Nat → SC}, (fieldC P s f mk).den = some r → ∃ v, r = .val v := fun h => by
  unfold fieldC at h
  (repeat' (split at h)) <;> first
    | exact ret_val h
    | exact fail_val h
 unfold roStep at h
 split at h <;> (repeat' (split at h)) <;> first
  | (cases h; done)
  | (simp only [Option.some.injEq] at h
     subst h
     first
      | exact lq hr
      | exact fq hr
      | exact ret_val hr
      | ((repeat' (split at hr)) <;> first
          | exact fail_val hr
          | exact vE_val hr
          | exact ite_val ret_val fail_val hr
          | exact atI_res (fun q h => ret_val h) hr))
omit hI hM hS in
theorem arRd_same {g g' : Get} {H H' : List (Nat × Blk)} {op : Op} {n : Nat} (h : arRd g op = some n) (hg : ∀ x ∈ op.operands, g x = g' x) (hH : find H n = find H' n) : arStep P H g op = arStep P H' g' op ∧ arOp g' op = true ∧ arRd g' op = some n := by
 have hr : getAr H n = getAr H' n := by simp only [getAr, hH]
 cases op with
 | load t x =>
  have ec := getC_congr (hg x (by simp [Op.operands]))
  simp only [arRd] at h
  split at h
  ·rename_i m sz i off hx
   simp at h
   subst h
   simp only [arStep, arOp, isPa, arRd, ← ec, hx, hr, and_self]
  ·simp at h
 | indexAddr t x i =>
  have ec := getC_congr (hg x (by simp [Op.operands]))
  have ei := getE_congr (hg i (by simp [Op.operands]))
  simp only [arRd] at h
  split at h
  ·rename_i m k hx
   simp at h
   subst h
   refine ⟨?_, by simp only [arOp, isAr, ← ec, hx], by simp only [arRd, ← ec, hx]⟩
   simp only [arStep, ← ec, ← ei, hx]
   cases hu : P.underlying t with
   | none => rfl
   | some d =>
    cases d <;> try rfl
    cases hq : getE g i with
    | none => rfl
    | some j => simp only [hr]
  ·simp at h
 | slice t x lo hi mx =>
  have ec := getC_congr (hg x (by simp [Op.operands]))
  simp only [arRd] at h
  split at h
  ·rename_i m k hx
   simp at h
   subst h
   refine ⟨?_, by simp only [arOp, isAr, ← ec, hx], by simp only [arRd, ← ec, hx]⟩
   cases hi with
   | none =>
    simp only [arStep, ← ec, hx]
    cases hu : P.underlying t with
    | none => rfl
    | some d => cases d <;> first | rfl | (cases lo <;> rfl)
   | some h' =>
    have eh := getE_congr (hg h' (by simp [Op.operands]))
    simp only [arStep, ← ec, hx]
    cases hu : P.underlying t with
    | none => rfl
    | some d =>
     cases d <;> first | rfl | (cases lo <;> first | rfl | simp only [← eh, hr])
  ·simp at h
 | call c =>
  simp only [arRd] at h
  split at h
  ·rename_i hc
   split at h
   ·rename_i x hx
    have ec := getC_congr (hg x (by simp [Op.operands, Call.operands, hc, ← Array.mem_toList_iff, hx]))
    split at h
    ·rename_i m k hy
     simp at h
     subst h
     refine ⟨?_, by simp only [arOp, hc, hx, isAr, ← ec, hy], by simp only [arRd, hc, hx, ← ec, hy]⟩
     simp only [arStep, hc, hx]
     split
     ·rename_i t x' hx1 hx2
      cases hx2
      simp only [← ec, hy]
      cases hu : P.underlying t with
      | none => rfl
      | some d =>
       cases d <;> try rfl
       simp only [hr]
     ·rfl
    ·simp at h
   ·simp at h
  ·simp at h
 | _ => simp [arRd] at h
omit hI hM hS in
theorem arRd_none (P : Program) {g : Get} {op : Op} (h : arOp g op = false) : arRd g op = none := by
 cases h2 : arRd g op with
 | none => rfl
 | some n =>
  have := (arRd_same (P := P) (H := []) (H' := []) h2 (fun _ _ => rfl) rfl).2.1
  rw [h] at this
  exact Bool.noConfusion this
omit hI hM hS in
theorem arRd_has {g : Get} {op : Op} {n : Nat} {ρ : Rho} {e : Operand → Value} (hg : ∀ x sv, g x = some sv → VRel ρ sv (e x)) (h : arRd g op = some n) : ∃ A, ρ.a n = some A := by
 have ar : ∀ {x : Operand} {k : Option SE}, getC g x = some (.ar n k) → ∃ A, ρ.a n = some A := fun hx => by
  obtain ⟨A, L, hn, _⟩ := getC_rel hg hx
  exact ⟨A, hn⟩
 unfold arRd at h
 split at h
 ·split at h
  ·rename_i m sz i off hx
   simp at h
   subst h
   obtain ⟨A, g', j, hn, _⟩ := getC_rel hg hx
   exact ⟨A, hn⟩
  ·simp at h
 ·split at h
  ·rename_i m k hx
   simp at h
   subst h
   exact ar hx
  ·simp at h
 ·split at h
  ·rename_i m k hx
   simp at h
   subst h
   exact ar hx
  ·simp at h
 ·split at h
  ·split at h
   ·split at h
    ·rename_i m k hx
     simp at h
     subst h
     exact ar hx
    ·simp at h
   ·simp at h
  ·simp at h
 ·simp at h
omit hI hM hS in
theorem arRd_val {g : Get} {H : List (Nat × Blk)} {op : Op} {n : Nat} {r : Res} (h : arRd g op = some n) (hr : (arStep P H g op).den = some r) : (∃ b, find H n = some b ∧ b.arr ≠ none) ∧ (∃ sv, r = .val sv) ∧ ∀ t x y, op ≠ .store t x y := by
 have spec : ∀ {b κs c}, getAr H n = some (b, κs, c) → ∃ b, find H n = some b ∧ b.arr ≠ none := fun hq => by
  obtain ⟨q1, q2⟩ := getAr_spec hq
  exact ⟨_, q1, by rw [q2]; simp⟩
 cases op with
 | load t x =>
  simp only [arRd] at h
  split at h
  ·rename_i m sz i off hx
   simp at h
   subst h
   simp only [arStep, hx] at hr
   split at hr
   ·rename_i b κs c hq
    split at hr
    ·refine ⟨spec hq, ?_, fun _ _ _ h => by cases h⟩
     unfold loadQ at hr
     (repeat' (split at hr)) <;> first
       | exact ret_val hr
       | exact fail_val hr
    ·simp [Tree.den] at hr
   ·simp [Tree.den] at hr
  ·simp at h
 | indexAddr t x i =>
  simp only [arRd] at h
  split at h
  ·rename_i m k hx
   simp at h
   subst h
   simp only [arStep, hx] at hr
   split at hr
   ·rename_i hz _ _
    cases hz
    split at hr
    ·rename_i hq _ _
     split at hr
     ·exact ⟨spec hq, ite_val ret_val fail_val hr, fun _ _ _ h => by cases h⟩
     ·simp [Tree.den] at hr
    ·simp [Tree.den] at hr
   ·simp [Tree.den] at hr
  ·simp at h
 | slice t x lo hi mx =>
  simp only [arRd] at h
  split at h
  ·rename_i m k hx
   simp at h
   subst h
   have key : ∃ b κs c, getAr H m = some (b, κs, c) := by
    cases hq : getAr H m with
    | none =>
     exfalso
     simp only [arStep, hx] at hr
     (repeat' (split at hr)) <;> first
       | (simp [Tree.den] at hr; done)
       | (simp_all; done)
    | some p => exact ⟨_, _, _, rfl⟩
   obtain ⟨b, κs, c, hq⟩ := key
   refine ⟨spec hq, ?_, fun _ _ _ h => by cases h⟩
   simp only [arStep, hx] at hr
   (repeat' (split at hr)) <;> first
     | exact ite_val ret_val fail_val hr
     | exact fail_val hr
  ·simp at h
 | call c =>
  simp only [arRd] at h
  split at h
  ·rename_i hc
   split at h
   ·rename_i x hx
    split at h
    ·rename_i m k hy
     simp at h
     subst h
     simp only [arStep, hc, hx] at hr
     split at hr
     ·rename_i t x' hx1 hx2
      cases hx2
      simp only [hy] at hr
      split at hr
      ·rename_i hz1 hz2
       cases hz1
       split at hr
       ·rename_i hq
        exact ⟨spec hq, vE_val hr, fun _ _ _ h => by cases h⟩
       ·simp [Tree.den] at hr
      ·simp [Tree.den] at hr
     ·simp [Tree.den] at hr
    ·simp at h
   ·simp at h
  ·simp at h
 | _ => simp [arRd] at h
theorem oneStep {u : Bool} {o : Oper} {s s1 : St} (hal : allowed P M S s.H (lookT s.T) o = true) (h : (opS M rec P S u o s).den = some s1) :
 ∃ v, s1.T = putT s.T o.dst v ∧ Leaves (lookT s.T) o s s1 ∧ Does P B w0 o s s1 v := by
 unfold opS at h
 split at h
 ·rename_i f args ats hop
  have hst : isSt o = false := by simp [isSt, hop]
  split at h
  ·rename_i f' caps vs hf hvs
   obtain ⟨⟨sv, H', nx'⟩, h1, h2⟩ := den_bind_some h
   obtain ⟨v', h3, h4⟩ := den_bind_some h2
   simp [Tree.den] at h4
   subst h4
   have hlend : lendO s.H (lookT s.T) o.op = lentVs s.H (vs ++ capsS caps) := by simp only [lendO, hop, hf, hvs]
   have hacc : accOf s.H (lookT s.T) s.nx o = (blkN s.H (lentVs s.H (vs ++ capsS caps))).head? := by rw [← hlend]; simp only [accOf, acc0, arRd, hop]
   unfold allowed at hal
   rw [hlend] at hal
   simp only [hop, hf, hvs, Bool.and_eq_true] at hal
   obtain ⟨hq, hfs⟩ := hal
   have key : ∃ (F : List Value → List Value) (A : List PS) (R : RS) (xs : List SE), flatL s.H A (vs ++ capsS caps) = some xs ∧ (retS P f' F xs R s.H s.nx).den = some (sv, H', nx') ∧
    ∀ w us, I w → RdKs w.cell? (kindsL A) us (denL xs) → CallOK P f' (packL A us).toArray w fun v w' => ∃ rs, v = R.pack rs ∧ ResKs P f' w w' R.kinds rs (F (denL xs)) ∧ Below w.heap.size w w' := by
    unfold callS at h1
    cases hc : findS S f' with
    | some c =>
     obtain ⟨hmem, rfl⟩ := findS_spec hc
     simp only [hc] at h1
     split at h1
     ·rename_i xs hxs
      exact ⟨c.F, c.args, c.res, xs, hxs, h1, fun w us hw hk => hS c hmem _ _ w hw hk⟩
     ·simp [Tree.den] at h1
    | none =>
     simp only [hc] at h1
     cases hc2 : pickC s.H M.cs f' (vs ++ capsS caps) with
     | none => rw [hc, hc2] at hfs; simp at hfs
     | some p =>
      obtain ⟨c, xs⟩ := p
      obtain ⟨hmem, rfl, hxs⟩ := pickC_spec hc2
      simp only [hc2] at h1
      obtain ⟨g1, g2⟩ := guard_den h1
      exact ⟨c.F, c.args, c.res, xs, hxs, g2, fun w us hw hk => hM.sums c hmem _ _ w hw hk g1⟩
   clear h1 h2
   obtain ⟨F, A, R, xs, hxs, hret, hcallK⟩ := key
   have run : ∀ {ρ : Rho} {a : Act} {w : World} {K : Act → World → Prop} {Q : Exit → Act → World → Prop}, (∀ x ∈ o.op.operands, ∀ sv, lookT s.T x = some sv → VRel ρ sv (a.eval x)) → (∀ a v, ρ.m a = some v → w.cell? a = some v) → NRel ρ w →
    (∀ n b, accOf s.H (lookT s.T) s.nx o = some n → find s.H n = some b → BRel B ρ w n b) → (∀ n b, find s.H n = some b → b.arr ≠ none → (∃ A, ρ.a n = some A) → XRel B ρ [(n, b)] w) → BelowF B w0 w →
    (∀ rs w', ResKs P f' w w' R.kinds rs (F (denL xs)) → Below w.heap.size w w' → K (a.put o.dst (R.pack rs)) w') → o.wp P a w K Q := by
    intro ρ a w K Q hg hmem hn hb hla hbel hK
    classical
    let g' : Get := fun x => if x ∈ o.op.operands then lookT s.T x else none
    have hg' : ∀ x sv, g' x = some sv → VRel ρ sv (a.eval x) := fun x sv hx => by
     simp only [g'] at hx
     split at hx
     ·rename_i hm; exact hg x hm sv hx
     ·simp at hx
    have hvs' : getSs g' args.toList = some vs := by
     rw [← hvs]
     exact getSs_congr _ fun x hx => by simp only [g']; rw [if_pos (by rw [hop]; simp [Op.operands, Call.operands] at hx ⊢; exact .inr hx)]
    have hvr := getSs_rel (ρ := ρ) (e := a.eval) hg' _ _ hvs'
    obtain ⟨cs, hcaps, ef⟩ := hg f (by rw [hop]; exact Array.mem_append.2 (.inl (Array.mem_singleton.2 rfl))) _ hf
    have hL : LRel (fun n => n ∈ lentVs s.H (vs ++ capsS caps)) ρ s.H w := by
     refine ⟨hmem, fun n b x hD hfb hba hx => ?_, fun n b κs c A hD hfb hba hA => (hla n b hfb (by rw [hba]; simp) ⟨A, hA⟩).arr n b κs c A (by simp only [find]; rw [if_pos (Nat.beq_refl _)]) hba hA⟩
     have hin : n ∈ blkN s.H (lentVs s.H (vs ++ capsS caps)) := by
      unfold blkN
      rw [List.mem_filter]
      exact ⟨hD, by rw [hfb]; simp [hba]⟩
     have hs := List.all_eq_true.1 hq n hin
     have hhd : (blkN s.H (lentVs s.H (vs ++ capsS caps))).head? = some n := by
      cases hh : (blkN s.H (lentVs s.H (vs ++ capsS caps))).head? with
      | none => rw [hh] at hs; exact Bool.noConfusion hs
      | some k => rw [hh] at hs; rw [beq_len hs]
     exact (hb n b (by rw [hacc]; exact hhd) hfb x hx).2
    obtain ⟨us, e, hk⟩ := flatL_sound hL (fun _ h => h) hxs (hvr.append (caps_rel hcaps))
    have hcall := hcallK w us (hI w hbel) hk
    rw [← e] at hcall
    have hx : (execOp a.eval o).run P w = (callFunc f' ((args.toList.map a.eval) ++ cs).toArray).run P w := by
     have e : ((args.toList.map a.eval) ++ cs).toArray = args.map a.eval ++ cs.toArray := by apply Array.ext'; simp
     rw [e]
     simp [execOp, hop, resolve, ef, Deferred.ofValue, invoke]
    unfold Oper.wp
    rw [hx]
    refine hcall.upon fun v w' ⟨rs, hv', hk', hb'⟩ => ?_
    subst hv'
    exact hK rs w' hk' hb'
   unfold retS at hret
   split at hret
   ·rename_i hpR
    split at hret
    ·rename_i haR
     simp [Tree.den] at hret
     obtain ⟨rfl, rfl, rfl⟩ := hret
     refine ⟨v', rfl, .inl ⟨hst, rfl, rfl⟩, fun {ρ a w K Q} hg hmem hn hb hla hbel hK _ _ _ => run hg hmem hn hb hla hbel fun rs w' hk' hb' => ?_⟩
     have hvr : VRel ρ (mkR f' F xs s.nx R) (R.pack rs) := by
      cases R with
      | one p => exact (mkPs_none (ρ := ρ) (f := f') (n := s.nx) (F := F) (xs := xs) (ds := F (denL xs)) (ps := [p]) (i := 0) (j := 0) haR hpR (by simp) (by simpa [kindsL, RS.kinds] using hk')).1
      | tup ps => exact ⟨_, rfl, mkPs_none (ρ := ρ) (f := f') (n := s.nx) (F := F) (xs := xs) haR hpR (by simp) hk'⟩
     exact hK hst _ w' (part_spec h3 hvr) hb' rfl rfl
    ·rename_i j κs haR
     split at hret
     ·rename_i e he
      simp [Tree.den] at hret
      obtain ⟨rfl, rfl, rfl⟩ := hret
      refine ⟨v', rfl, .inr (.inl ⟨hst, _, (fun h => by cases h), rfl, rfl⟩), fun {ρ a w K Q} hg hmem hn hb hla hbel _ _ _ hK => run hg hmem hn hb hla hbel fun rs w' hk' hb' => ?_⟩
      have hk2 : ResKs P f' w w' (kindsL R.parts) rs (F (denL xs)) := by
       cases R with
       | one p => simpa [RS.parts, kindsL, RS.kinds] using hk'
       | tup ps => exact hk'
      obtain ⟨t, r, d, k1, k2, k3, k4⟩ := mkPs_one (f := f') (n := s.nx) (F := F) (xs := xs) haR hpR (by simp) hk2
      rw [he] at k1
      simp at k1
      subst k1
      obtain ⟨A', es, us, rfl, rfl, q1, q2, q3, q4, q5, q6, q7, q8⟩ := k2
      have hA : ArrOK κs (.app f' F j (.l κs) xs) e A' w' := ⟨es, us, rfl, q2, by simp only [SE.den, List.getD, k3, Option.getD_some, norm], q1, q3, q4, q5, q6, q7⟩
      have hvr : VRel (newArr ρ s.nx A') (mkR f' F xs s.nx R) (R.pack rs) := by
       have hp := k4 (newArr ρ s.nx A') ⟨A', A'.len, by simp [newArr], q4, q5, q3, Nat.le_refl _, fun _ => rfl, (fun x hx => by cases hx), rfl⟩
       cases R with
       | one p => exact hp.1
       | tup ps => exact ⟨_, rfl, hp⟩
      exact hK hst _ w' A' e κs _ rfl rfl hA hb' q8 (part_spec h3 hvr)
     ·simp [Tree.den] at hret
    ·simp [Tree.den] at hret
   ·simp [Tree.den] at hret
  ·simp [Tree.den] at h
 ·rename_i hncall
  obtain ⟨r, h1, h2⟩ := den_bind_some h
  by_cases hro : ∃ t, roStep P (lookT s.T) o.op = some t
  ·obtain ⟨t, hro⟩ := hro
   have hval : ∀ {ρ : Rho} {a : Act} {w : World}, (∀ x ∈ o.op.operands, ∀ sv, lookT s.T x = some sv → VRel ρ sv (a.eval x)) → (∀ a v, ρ.m a = some v → w.cell? a = some v) → ∃ sv, r = .val sv ∧ ∃ v, (execOp a.eval o).run P w = .ok (.value v) w ∧ VRel ρ sv v := by
    intro ρ a w hg hmem
    classical
    let g' : Get := fun x => if x ∈ o.op.operands then lookT s.T x else none
    have hg' : ∀ x sv, g' x = some sv → VRel ρ sv (a.eval x) := fun x sv hx => by
     simp only [g'] at hx
     split at hx
     ·rename_i hm; exact hg x hm sv hx
     ·simp at hx
    have e : roStep P g' o.op = some t := by
     rw [← hro]
     exact ro_congr fun x hx => by simp only [g']; rw [if_pos hx]
    simp only [opStep, hro] at h1
    exact ro_sound (P := P) hg' hmem e h1
   have hst : isSt o = false := by
    cases hst : isSt o with
    | false => rfl
    | true =>
     unfold isSt at hst
     split at hst
     ·rename_i t' x y hop
      rw [hop] at hro
      simp [roStep] at hro
     ·simp at hst
   simp only [opStep, hro] at h1
   obtain ⟨sv, rfl⟩ := ro_val hro h1
   simp only [fin] at h2
   obtain ⟨v', h3, h4⟩ := den_bind_some h2
   simp [Tree.den] at h4
   subst h4
   refine ⟨v', rfl, .inl ⟨hst, rfl, rfl⟩, fun {ρ a w K Q} hg hmem hn hb _ hbel hK _ _ _ => ?_⟩
   obtain ⟨sv', e, x, hr, hv⟩ := hval hg hmem
   cases e
   unfold Oper.wp
   rw [hr]
   exact hK hst x w (part_spec h3 hv) (Below.refl _ _) rfl rfl
  have hro : roStep P (lookT s.T) o.op = none := by
   cases hq : roStep P (lookT s.T) o.op with
   | none => rfl
   | some t => exact absurd ⟨t, hq⟩ hro
  have hbig : isBig P o.op = false ∧ (!(arOp (lookT s.T) o.op) || (arRd (lookT s.T) o.op).isSome) = true := by
   unfold allowed at hal
   split at hal
   ·rename_i q1 q2 q3 hq; exact absurd hq (hncall _ _ _)
   ·rename_i q1 q2
    simp only [Bool.and_eq_true] at hal
    exact ⟨by simpa using hal.1, by simpa using hal.2⟩
  obtain ⟨hbig, hal⟩ := hbig
  by_cases hna : arOp (lookT s.T) o.op = true
  ·obtain ⟨n, hrd⟩ : ∃ n, arRd (lookT s.T) o.op = some n := by
    simp only [hna, Bool.not_true, Bool.false_or] at hal
    exact Option.isSome_iff_exists.1 hal
   have hacc : accOf s.H (lookT s.T) s.nx o = some n := by simp only [accOf, hrd]
   simp only [opStep, hro, hbig, hna, if_true, Bool.false_eq_true, if_false] at h1
   obtain ⟨⟨b, hf, ha⟩, ⟨sv, rfl⟩, hst0⟩ := arRd_val hrd h1
   have hst : isSt o = false := by
    cases hst : isSt o with
    | false => rfl
    | true =>
     unfold isSt at hst
     split at hst
     ·rename_i t' x y hop
      exact absurd hop (hst0 _ _ _)
     ·simp at hst
   simp only [fin] at h2
   obtain ⟨v', h3, h4⟩ := den_bind_some h2
   simp [Tree.den] at h4
   subst h4
   refine ⟨v', rfl, .inl ⟨hst, rfl, rfl⟩, fun {ρ a w K Q} hg hmem hn hb hla hbel hK _ _ _ => ?_⟩
   classical
   let g' : Get := fun x => if x ∈ o.op.operands then lookT s.T x else none
   have hg' : ∀ x sv, g' x = some sv → VRel ρ sv (a.eval x) := fun x sv hx => by
    simp only [g'] at hx
    split at hx
    ·rename_i hm; exact hg x hm sv hx
    ·simp at hx
   have hf1 : find [(n, b)] n = some b := by simp only [find]; rw [if_pos (Nat.beq_refl _)]
   obtain ⟨e1, e2, e3⟩ := arRd_same (P := P) (g := lookT s.T) (g' := g') (H := s.H) (H' := [(n, b)]) hrd (fun x hx => by simp only [g']; rw [if_pos hx]) (by rw [hf, hf1])
   have hH1 : HRel B ρ [(n, b)] w := ⟨hn.lt, hn.inj, fun m c x hfc hx => by
    simp only [find] at hfc
    split at hfc
    ·rename_i e
     have := beq_len e
     subst this
     simp at hfc
     subst hfc
     exact hb _ _ hacc hf x hx
    ·simp at hfc⟩
   obtain ⟨x, hr, hv⟩ := ar_sound (P := P) hg' hH1 (hla n b hf ha (arRd_has hg' e3)) e2 (by rw [← e1]; exact h1)
   unfold Oper.wp
   rw [hr]
   exact hK hst x w (part_spec h3 hv) (Below.refl _ _) rfl rfl
  have hna : arOp (lookT s.T) o.op = false := by simpa using hna
  have hac : accOf s.H (lookT s.T) s.nx o = acc0 s.H (lookT s.T) s.nx o := by simp only [accOf, arRd_none P hna]
  simp only [opStep, hro, hbig, hna, Bool.false_eq_true, if_false] at h1
  let H1 : List (Nat × Blk) := match accOf s.H (lookT s.T) s.nx o with
   | some n => match find s.H n with
    | some b => [(n, b)]
    | none => []
   | none => []
  have hH1 : ∀ n b, find H1 n = some b → accOf s.H (lookT s.T) s.nx o = some n ∧ find s.H n = some b := by
   intro n b hn
   simp only [H1] at hn
   split at hn
   ·rename_i m ha
    split at hn
    ·rename_i c hc
     simp only [find] at hn
     split at hn
     ·rename_i e
      have := beq_len e
      subst this
      simp at hn
      subst hn
      exact ⟨ha, hc⟩
     ·simp at hn
    ·simp [find] at hn
   ·simp [find] at hn
  have hH1' : ∀ n, accOf s.H (lookT s.T) s.nx o = some n → find H1 n = find s.H n := by
   intro n ha
   simp only [H1, ha]
   cases hc : find s.H n with
   | none => rfl
   | some c => simp only [find]; rw [if_pos (Nat.beq_refl _)]
  have hpure : pureStep P s.H (lookT s.T) o.op = pureStep P H1 (lookT s.T) o.op := pure_heap fun t x n hop ha => (hH1' n (by
   rcases hop with hop | ⟨y, hop⟩ <;> (rw [hac]; simp only [acc0, hop, ha]))).symm
  have main : ∀ {ρ : Rho} {a : Act} {w : World}, (∀ x ∈ o.op.operands, ∀ sv, lookT s.T x = some sv → VRel ρ sv (a.eval x)) → NRel ρ w → (∀ n b, accOf s.H (lookT s.T) s.nx o = some n → find s.H n = some b → BRel B ρ w n b) → BelowF B w0 w → Eff P B ρ H1 w (execOp a.eval o) r := by
   intro ρ a w hg hn hb hbel
   classical
   let g' : Get := fun x => if x ∈ o.op.operands then lookT s.T x else none
   have hg' : ∀ x sv, g' x = some sv → VRel ρ sv (a.eval x) := fun x sv hx => by
    simp only [g'] at hx
    split at hx
    ·rename_i hm; exact hg x hm sv hx
    ·simp at hx
   refine pure_sound (g := g') hg' ⟨hn.lt, hn.inj, fun n b x hf hx => ?_⟩ ?_
   ·obtain ⟨q1, q2⟩ := hH1 n b hf
    exact hb n b q1 q2 x hx
   ·rw [← h1, hpure]
    congr 1
    exact pure_congr fun x hx => by simp only [g']; rw [if_pos hx]
  have noArr : ∀ {q : Prop}, (∀ v, r ≠ .val v) → (∀ cs t, r ≠ .blk cs t) → (∀ cs t n, r ≠ .sl cs t n) → (∀ n cs off new, r ≠ .st n cs off new) → q := fun a1 a2 a3 a4 => by
   rcases pure_res h1 with ⟨v, hv⟩ | ⟨cs, t, hv⟩ | ⟨cs, t, n, hv⟩ | ⟨t, x, y, hop⟩
   ·exact absurd hv (a1 v)
   ·exact absurd hv (a2 cs t)
   ·exact absurd hv (a3 cs t n)
   ·rw [hop] at h1
    simp only [pureStep] at h1
    (repeat' (split at h1)) <;> first
      | (simp [Tree.den] at h1; done)
      | (simp only [Tree.den, Option.some.injEq] at h1; exact absurd h1.symm (a4 _ _ _ _))
  cases r with
  | arr old c κs t => exact noArr (fun _ h => by cases h) (fun _ _ h => by cases h) (fun _ _ _ h => by cases h) (fun _ _ _ _ h => by cases h)
  | sta n c κs => exact noArr (fun _ h => by cases h) (fun _ _ h => by cases h) (fun _ _ _ h => by cases h) (fun _ _ _ _ h => by cases h)
  | val v =>
   simp only [fin] at h2
   obtain ⟨v', h3, h4⟩ := den_bind_some h2
   simp [Tree.den] at h4
   subst h4
   have hst : isSt o = false := by
    cases hst : isSt o with
    | false => rfl
    | true =>
     unfold isSt at hst
     split at hst
     ·rename_i t x y hop
      rw [hop] at h1
      simp only [pureStep] at h1
      (repeat' (split at h1)) <;> simp [Tree.den] at h1
     ·simp at hst
   refine ⟨v', rfl, .inl ⟨hst, rfl, rfl⟩, fun {ρ a w K Q} hg _ hn hb _ hbel hK _ _ _ => ?_⟩
   obtain ⟨x, hr, hv⟩ := main hg hn hb hbel
   unfold Oper.wp
   rw [hr]
   exact hK hst x w (part_spec h3 hv) (Below.refl _ _) rfl rfl
  | blk cs t =>
   simp [fin, Tree.den] at h2
   subst h2
   have hsm : isSt o = false ∧ accOf s.H (lookT s.T) s.nx o = some s.nx := by
    rcases pure_blk h1 (.inl ⟨_, _, rfl⟩) with ⟨t, hop⟩ | ⟨t, x, hop⟩ | ⟨t, n, ps, hop⟩ <;> (rw [hac]; simp [isSt, acc0, hop])
   refine ⟨.p (.c (.p s.nx 0)), rfl, .inr (.inl ⟨hsm.1, _, (fun _ => hsm.2), rfl, rfl⟩), fun {ρ a w K Q} hg _ hn hb _ hbel _ hK _ _ => ?_⟩
   obtain ⟨vs, hr, hv⟩ := main hg hn hb hbel
   unfold Oper.wp
   rw [hr]
   exact hK hsm.1 _ cs t vs hsm.2 rfl rfl hv fun _ => ⟨w.heap.size, by simp [newRho], rfl⟩
  | sl cs t len =>
   simp [fin, Tree.den] at h2
   subst h2
   have hsm : isSt o = false ∧ accOf s.H (lookT s.T) s.nx o = some s.nx := by
    rcases pure_blk h1 (.inr ⟨_, _, _, rfl⟩) with ⟨t, hop⟩ | ⟨t, x, hop⟩ | ⟨t, n, ps, hop⟩ <;> (rw [hac]; simp [isSt, acc0, hop])
   refine ⟨.p (.c (.sl s.nx 0 len len)), rfl, .inr (.inl ⟨hsm.1, _, (fun _ => hsm.2), rfl, rfl⟩), fun {ρ a w K Q} hg _ hn hb _ hbel _ hK _ _ => ?_⟩
   obtain ⟨vs, hr, hv⟩ := main hg hn hb hbel
   unfold Oper.wp
   rw [hr]
   exact hK hsm.1 _ cs t vs hsm.2 rfl rfl hv fun _ => ⟨w.heap.size, by simp [newRho], rfl⟩
  | st n cs off new =>
   simp [fin, Tree.den] at h2
   subst h2
   have hop : isSt o = true ∧ accOf s.H (lookT s.T) s.nx o = some n ∧ ∃ b, find s.H n = some b := by
    rcases pure_res h1 with ⟨v, hv⟩ | ⟨cs, t, hv⟩ | ⟨cs, t, n, hv⟩ | ⟨t, x, y, hop⟩
    ·cases hv
    ·cases hv
    ·cases hv
    ·refine ⟨by simp [isSt, hop], ?_⟩
     rw [hop] at h1
     simp only [pureStep] at h1
     split at h1
     ·rename_i n' off' v' ha _
      split at h1
      ·rename_i b k hb hk
       split at h1
       ·simp [Tree.den] at h1
        obtain ⟨rfl, _⟩ := h1
        exact ⟨by rw [hac]; simp [acc0, hop, ha], b, hb⟩
       ·simp [Tree.den] at h1
      ·simp [Tree.den] at h1
     ·simp [Tree.den] at h1
   refine ⟨undefS, rfl, .inr (.inr ⟨hop.1, rfl, n, _, hop.2.1, hop.2.2, rfl⟩), fun {ρ a w K Q} hg _ hn hb _ hbel _ _ hK _ => ?_⟩
   obtain ⟨w', hr, hH', hb', hsz, y, b, hy, hfb, hoth⟩ := main hg hn hb hbel
   unfold Oper.wp
   rw [hr]
   refine hK hop.1 _ w' n hop.2.1 undef_rel (fun c hc => ?_) ⟨y, hy, hoth⟩ hsz hb' rfl
   intro x hx
   have hfs : find (upd H1 n (putC cs off new)) n = some c := by
    have e1 := find_upd_self H1 n (putC cs off new) (hH1' n hop.2.1)
    rw [e1, ← hc]
   exact hH'.blk n c x hfs hx
end
end Go.Proofs.YtdioaiepkhepaaaGreatDoor
namespace Go.Proofs.YtdioaiepkhepaaaGreatDoor
open Go.RowKit
theorem XRel.made {B : Foot} {ρ : Rho} {H : List (Nat × Blk)} {w w' : World} (h : XRel B ρ H w) (hBw : B.base ≤ w.heap.size) (hr : NRel ρ w) {n : Nat} (hn : ρ n = none) (hna : ρ.a n = none) {A : ArrV} {κs : List SK} {c : SE} {t : TypeId} (hA : ArrOK κs c t A w')
 (hb : Below w.heap.size w w') (hg : ∀ g, A.g = some g → w.heap.size ≤ g) : XRel B (newArr ρ n A) ((n, { cells := [], elem := t, own := true, arr := some (κs, c) }) :: H) w' := by
 have X := h.below hb
 have aOld : ∀ m, m ≠ n → (newArr ρ n A).a m = ρ.a m := fun m hm => by simp only [newArr]; rw [if_neg hm]
 have aNew : (newArr ρ n A).a n = some A := by simp [newArr]
 have old : ∀ {m : Nat} {b : Blk} {A' : ArrV} {g : Nat}, find H m = some b → b.arr ≠ none → ρ.a m = some A' → A'.g = some g → g < w.heap.size := fun {m b A' g} hf hb hA' hg' => by
  cases hba : b.arr with
  | none => exact absurd hba hb
  | some p => exact (h.arr m b p.1 p.2 A' hf hba hA').lt hg'
 refine ⟨X.mem, fun m b x hf hx a ha => ?_, fun m b κs' c' A' hf hb' hA' => ?_, fun m b A' g hf hb' hA' hg' => ?_, fun m b hf => ?_, fun m m' b b' A1 A2 g hf hf' h1 h2 hA1 hA2 hg1 hg2 => ?_⟩
 ·rcases find_cons hf with ⟨rfl, _⟩ | ⟨_, h2⟩
  ·rw [show (newArr ρ m A) m = ρ m from rfl, hn] at hx; cases hx
  ·exact X.off m b x h2 hx a ha
 ·rcases find_cons hf with ⟨rfl, rfl⟩ | ⟨hne, h2⟩
  ·rw [aNew] at hA'
   simp at hA' hb'
   subst hA'
   obtain ⟨rfl, rfl⟩ := hb'
   exact hA
  ·rw [aOld m hne] at hA'
   exact X.arr m b κs' c' A' h2 hb' hA'
 ·rcases find_cons hf with ⟨rfl, rfl⟩ | ⟨hne, h2⟩
  ·rw [aNew] at hA'
   simp at hA'
   subst hA'
   refine ⟨fun _ => .inl (Nat.le_trans hBw (hg g hg')), fun a ha => ?_, fun k y hk e => ?_⟩
   ·show ρ.m a = none
    cases hq : ρ.m a with
    | none => rfl
    | some v => have := cellOf_lt (h.mem a v hq); have := hg g hg'; omega
   ·subst e
    have := hr.lt k y hk
    have := hg y hg'
    omega
  ·rw [aOld m hne] at hA'
   exact X.offa m b A' g h2 hb' hA' hg'
 ·rcases find_cons hf with ⟨rfl, rfl⟩ | ⟨hne, h2⟩
  ·exact ⟨fun _ => ⟨A, aNew⟩, fun h => by cases h⟩
  ·refine ⟨fun h => ?_, (X.has m b h2).2⟩
   obtain ⟨A', hA'⟩ := (X.has m b h2).1 h
   exact ⟨A', by rw [aOld m hne]; exact hA'⟩
 ·rcases find_cons hf with ⟨rfl, rfl⟩ | ⟨hne, k1⟩ <;> rcases find_cons hf' with ⟨rfl, rfl⟩ | ⟨hne', k2⟩
  ·rfl
  ·rw [aNew] at hA1
   simp at hA1
   subst hA1
   rw [aOld m' hne'] at hA2
   have := old k2 h2 hA2 hg2
   have := hg g hg1
   omega
  ·rw [aNew] at hA2
   simp at hA2
   subst hA2
   rw [aOld m hne] at hA1
   have := old k1 h1 hA1 hg1
   have := hg g hg2
   omega
  ·rw [aOld m hne] at hA1
   rw [aOld m' hne'] at hA2
   exact X.inja m m' b b' A1 A2 g k1 k2 h1 h2 hA1 hA2 hg1 hg2
theorem XRel.alloc0 {B : Foot} {ρ : Rho} {H : List (Nat × Blk)} {w : World} (h : XRel B ρ H w) {n : Nat} (hn : ρ n = none) (o : Obj) : XRel B (newRho ρ n w.heap.size) H (w.alloc o) := by
 have hold : ∀ {y : Nat}, y < w.heap.size → (w.alloc o).heap[y]? = w.heap[y]? := fun hy => Below.heap_alloc _ _ _ hy
 have lt : ∀ {m : Nat} {b : Blk} {A' : ArrV} {g : Nat}, find H m = some b → b.arr ≠ none → ρ.a m = some A' → A'.g = some g → g < w.heap.size := fun {m b A' g} hf hb hA' hg' => by
  cases hba : b.arr with
  | none => exact absurd hba hb
  | some p => exact (h.arr m b p.1 p.2 A' hf hba hA').lt hg'
 refine ⟨fun a v hv => ?_, fun m b x hf hx a ha => ?_, fun m b κs c A hf hb hA => (h.arr m b κs c A hf hb hA).heap fun g hg => hold (lt hf (by rw [hb]; simp) hA hg), fun m b A g hf hb hA hg => ?_, fun m b hf => ?_, h.inja⟩
 ·have := h.mem a v hv
  rw [cell_heap (hold (cellOf_lt this))]
  exact this
 ·simp only [newRho] at hx
  split at hx
  ·simp at hx
   show ρ.m a = none
   cases hq : ρ.m a with
   | none => rfl
   | some v => have := cellOf_lt (h.mem a v hq); omega
  ·exact h.off m b x hf hx a ha
 ·obtain ⟨q1, q2, q3⟩ := h.offa m b A g hf hb hA hg
  refine ⟨q1, q2, fun k y hk => ?_⟩
  simp only [newRho] at hk
  split at hk
  ·simp at hk
   have := lt hf hb hA hg
   omega
  ·exact q3 k y hk
 ·refine ⟨(h.has m b hf).1, fun hb => ?_⟩
  obtain ⟨x, hx⟩ := (h.has m b hf).2 hb
  refine ⟨x, ?_⟩
  simp only [newRho]
  split
  ·rename_i e; rw [e, hn] at hx; cases hx
  ·exact hx
theorem XRel.sub {B : Foot} {ρ : Rho} {H H' : List (Nat × Blk)} {w : World} (h : XRel B ρ H' w) (hs : ∀ n b, find H n = some b → find H' n = some b) : XRel B ρ H w :=
 ⟨h.mem, fun n b x hf => h.off n b x (hs n b hf), fun n b κs c A hf => h.arr n b κs c A (hs n b hf), fun n b A g hf => h.offa n b A g (hs n b hf), fun n b hf => h.has n b (hs n b hf), fun n n' b b' A A' g hf hf' => h.inja n n' b b' A A' g (hs n b hf) (hs n' b' hf')⟩
theorem XRel.drew {B : Foot} {ρ : Rho} {H : List (Nat × Blk)} {w : World} (h : XRel B ρ H w) : XRel B ρ H w.drew :=
 ⟨h.mem, h.off, fun n b κs c A hf hb hA => (h.arr n b κs c A hf hb hA).heap fun _ _ => rfl, h.offa, h.has, h.inja⟩
theorem XRel.store2 {B : Foot} {ρ : Rho} {H : List (Nat × Blk)} {w w' : World} {n x : Nat} (h : XRel B ρ H w) (hx : ρ n = some x) (hoff : ∀ a : Addr, a.block = x → ρ.m a = none) (ho : ∀ y, y ≠ x → w'.heap[y]? = w.heap[y]?) : XRel B ρ H w' :=
 ⟨fun a v hm => by
  have hne : a.block ≠ x := fun e => by rw [hoff a e] at hm; cases hm
  rw [cell_heap (ho _ hne)]
  exact h.mem a v hm, h.off, fun m c κs q A hf hc hA => (h.arr m c κs q A hf hc hA).heap fun g hg => ho g (fun e => (h.offa m c A g hf (by rw [hc]; simp) hA hg).2.2 n x hx e.symm), h.offa, h.has, h.inja⟩
section
variable {P : Program} {rec : Rec} {M : Env} {S : List Sum}
structure Trace (M : Env) (rec : Rec) (P : Program) (S : List Sum) (ops : Array Oper) (i : Nat) (l : List Oper) (st : Nat → St) (acc : Nat → Option Nat) : Prop where
 step : ∀ k o, l[k]? = some o → ∃ b, wantS ops (st (i + k)).T o = some b ∧ (b = false → st (i + k + 1) = { st (i + k) with T := putT (st (i + k)).T o.dst undefS } ∧ acc (i + k) = none) ∧
  (b = true → allowed P M S (st (i + k)).H (lookT (st (i + k)).T) o = true ∧ (opS M rec P S (used ops (i + k)) o (st (i + k))).den = some (st (i + k + 1)) ∧ acc (i + k) = accOf (st (i + k)).H (lookT (st (i + k)).T) (st (i + k)).nx o)
theorem trace_of {ops : Array Oper} : ∀ (l : List Oper) (i : Nat) {s s' : St} {as as' : List (Option Nat)}, (evD M rec P S ops i l s as).den = some (s', as') → ∃ (st : Nat → St) (acc : Nat → Option Nat) (bs : List (Option Nat)), st i = s ∧ st (i + l.length) = s' ∧ as' = as ++ bs ∧ bs.length = l.length ∧
 (∀ k, k < l.length → bs[k]? = some (acc (i + k))) ∧ Trace M rec P S ops i l st acc
 | [], i, s, s', as, as', h => by
  simp [evD, Tree.den] at h
  obtain ⟨rfl, rfl⟩ := h
  exact ⟨fun _ => s, fun _ => none, [], rfl, rfl, by simp, rfl, fun k hk => by simp at hk, ⟨fun k o hk => by simp at hk⟩⟩
 | o :: l, i, s, s', as, as', h => by
  have put : ∀ {s1 : St} {st : Nat → St} {acc : Nat → Option Nat} {x : Option Nat} {bs : List (Option Nat)}, st (i + 1) = s1 → st (i + 1 + l.length) = s' → as' = as ++ [x] ++ bs → bs.length = l.length → (∀ k, k < l.length → bs[k]? = some (acc (i + 1 + k))) → Trace M rec P S ops (i + 1) l st acc →
   (∃ b, wantS ops s.T o = some b ∧ (b = false → s1 = { s with T := putT s.T o.dst undefS } ∧ x = none) ∧ (b = true → allowed P M S s.H (lookT s.T) o = true ∧ (opS M rec P S (used ops i) o s).den = some s1 ∧ x = accOf s.H (lookT s.T) s.nx o)) →
   ∃ (st : Nat → St) (acc : Nat → Option Nat) (bs : List (Option Nat)), st i = s ∧ st (i + (o :: l).length) = s' ∧ as' = as ++ bs ∧ bs.length = (o :: l).length ∧ (∀ k, k < (o :: l).length → bs[k]? = some (acc (i + k))) ∧ Trace M rec P S ops i (o :: l) st acc := by
   intro s1 st acc x bs e1 e2 e3 e4 e5 ht hstep
   refine ⟨fun m => if m = i then s else st m, fun m => if m = i then x else acc m, x :: bs, by simp, ?_, by rw [e3]; simp, by simp [e4], fun k hk => ?_, ⟨fun k o' hk => ?_⟩⟩
   ·have e : i + (o :: l).length = i + 1 + l.length := by simp; omega
    simp only [e]
    rw [if_neg (show i + 1 + l.length ≠ i by omega)]
    exact e2
   ·cases k with
    | zero => simp
    | succ k =>
     have e : i + (k + 1) = i + 1 + k := by omega
     simp only [e]
     rw [if_neg (show i + 1 + k ≠ i by omega)]
     simpa using e5 k (by simpa using hk)
   ·cases k with
    | zero =>
     simp at hk
     subst hk
     simpa [e1] using hstep
    | succ k =>
     have := ht.step k o' (by simpa using hk)
     have e : i + (k + 1) = i + 1 + k := by omega
     simp only [e]
     rw [if_neg (show i + 1 + k ≠ i by omega), if_neg (show i + 1 + k + 1 ≠ i by omega), if_neg (show i + 1 + k ≠ i by omega)]
     exact this
  simp only [evD] at h
  split at h
  ·simp [Tree.den] at h
  ·rename_i hw
   obtain ⟨st, acc, bs, e1, e2, e3, e4, e5, ht⟩ := trace_of l (i + 1) h
   exact put e1 e2 e3 e4 e5 ht ⟨false, hw, fun _ => ⟨rfl, rfl⟩, fun hf => Bool.noConfusion hf⟩
  ·rename_i hw
   split at h
   ·rename_i hal
    obtain ⟨s1, h1, h2⟩ := den_bind_some h
    obtain ⟨st, acc, bs, e1, e2, e3, e4, e5, ht⟩ := trace_of l (i + 1) h2
    exact put e1 e2 e3 e4 e5 ht ⟨true, hw, fun hf => Bool.noConfusion hf, fun _ => ⟨hal, h1, rfl⟩⟩
   ·simp [Tree.den] at h
end
end Go.Proofs.YtdioaiepkhepaaaGreatDoor
namespace Go.Proofs.YtdioaiepkhepaaaGreatDoor
open Go.RowKit
def cnt (L : Nat → Bool) : Nat → Nat
 | 0 => 0
 | n + 1 => cnt L n + (if L n then 0 else 1)
theorem cnt_le (L : Nat → Bool) : ∀ n, cnt L n ≤ n
 | 0 => Nat.le_refl _
 | n + 1 => by have := cnt_le L n; simp only [cnt]; split <;> omega
theorem cnt_zero {L : Nat → Bool} : ∀ {n}, cnt L n = 0 → ∀ j, j < n → L j = true
 | 0, _, j, h => by omega
 | n + 1, h, j, hj => by
  simp only [cnt] at h
  by_cases e : j = n
  ·subst e
   cases hL : L j with
   | true => rfl
   | false => simp [hL] at h
  ·exact cnt_zero (n := n) (by omega) j (by omega)
theorem cnt_same {L L' : Nat → Bool} : ∀ {n}, (∀ j, j < n → L j = L' j) → cnt L n = cnt L' n
 | 0, _ => rfl
 | n + 1, h => by simp only [cnt]; rw [cnt_same (n := n) fun j hj => h j (by omega), h n (by omega)]
theorem cnt_set {L L' : Nat → Bool} {i : Nat} (hi : L i = false) (hi' : L' i = true) (h : ∀ j, j ≠ i → L' j = L j) : ∀ {n}, i < n → cnt L' n + 1 = cnt L n
 | 0, hn => by omega
 | n + 1, hn => by
  simp only [cnt]
  by_cases e : i = n
  ·subst e
   rw [cnt_same (L := L') (L' := L) fun j hj => h j (by omega), hi, hi']
   simp
  ·have := cnt_set hi hi' h (n := n) (by omega)
   rw [h n (fun e' => e e'.symm)]
   omega
theorem apartD_spec : ∀ {l : List (Option Tmp)}, apartD l = true → ∀ (i j : Nat) (d : Tmp), l[i]? = some (some d) → l[j]? = some (some d) → i = j
 | [], _, i, j, d, h, _ => by simp at h
 | none :: l, h, i, j, d, hi, hj => by
  cases i with
  | zero => simp at hi
  | succ i => cases j with
   | zero => simp at hj
   | succ j => rw [apartD_spec (l := l) h i j d (by simpa using hi) (by simpa using hj)]
 | some c :: l, h, i, j, d, hi, hj => by
  simp only [apartD, Bool.and_eq_true] at h
  have hn : some c ∉ l := by simpa using h.1
  cases i with
  | zero =>
   simp at hi
   subst hi
   cases j with
   | zero => rfl
   | succ j => exact absurd (List.mem_of_getElem? (by simpa using hj)) hn
  | succ i => cases j with
   | zero =>
    simp at hj
    subst hj
    exact absurd (List.mem_of_getElem? (by simpa using hi)) hn
   | succ j => rw [apartD_spec (l := l) h.2 i j d (by simpa using hi) (by simpa using hj)]
theorem slotsOk_spec {ms : List Nat} {lk : List Tmp} {i m : Nat} : ∀ {l : List (Option Tmp)} {k : Nat}, slotsOk ms lk i m k l = true → ∀ (j : Nat) (d : Tmp), l[j]? = some (some d) → d ∈ lk → (k + j < i ∧ m.testBit (k + j) = true) ∨ (i < k + j ∧ (ms.getD (k + j) 0).testBit i = true)
 | [], _, _, j, d, h, _ => by simp at h
 | none :: l, k, h, j, d, hj, hd => by
  cases j with
  | zero => simp at hj
  | succ j =>
   have := slotsOk_spec (l := l) (k := k + 1) h j d (by simpa using hj) hd
   rwa [show k + 1 + j = k + (j + 1) by omega] at this
 | some c :: l, k, h, j, d, hj, hd => by
  simp only [slotsOk, Bool.and_eq_true] at h
  cases j with
  | zero =>
   simp at hj
   subst hj
   have h1 := h.1
   simp only [Bool.or_eq_true, Bool.and_eq_true] at h1
   rcases h1 with h1 | ⟨h1, h2⟩ | ⟨h1, h2⟩
   ·have : lk.contains c = true := by simpa using hd
    rw [this] at h1
    exact Bool.noConfusion h1
   ·refine .inl ⟨?_, h2⟩
    have := Nat.le_of_ble_eq_true h1
    exact this
   ·refine .inr ⟨?_, h2⟩
    have := Nat.le_of_ble_eq_true h1
    exact this
  | succ j =>
   have := slotsOk_spec (l := l) (k := k + 1) h.2 j d (by simpa using hj) hd
   rwa [show k + 1 + j = k + (j + 1) by omega] at this
def MaskIn (D : Nat → Prop) (acc : List Nat) : Prop := ∀ k m j, acc[k]? = some m → D k → m.testBit j = true → D j
theorem maskOf_in {D : Nat → Prop} {acc : List Nat} (ha : MaskIn D acc) : ∀ {es : List Edge}, (∀ e ∈ es, Region.binds .any e = true → D e.on) → ∀ j, (maskOf acc es).testBit j = true → D j
 | [], _, j, h => by simp [maskOf] at h
 | e :: es, he, j, h => by
  have ih := maskOf_in ha (es := es) fun x hx => he x (by simp [hx])
  simp only [maskOf] at h
  split at h
  ·rename_i hb
   have hD := he e (by simp) hb
   rw [Nat.testBit_or, Nat.testBit_or] at h
   simp only [Bool.or_eq_true] at h
   rcases h with (h | h) | h
   ·rw [Nat.testBit_two_pow] at h
    simp at h
    exact h ▸ hD
   ·cases hm : acc[e.on]? with
    | none => simp [List.getD, hm] at h
    | some m => simp [List.getD, hm] at h; exact ha _ _ _ hm hD h
   ·exact ih j h
  ·exact ih j h
theorem hangs_spec {dsts : List (Option Tmp)} {ops : Array Oper} {ms : List Nat} {D : Nat → Prop} : ∀ {l : List Oper} {i : Nat} {acc : List Nat}, hangs dsts ops ms i acc l = true → acc.length = i → MaskIn D acc →
 (∀ k o, l[k]? = some o → D (i + k) → ∀ e ∈ o.after, Region.binds .any e = true → D e.on) → ∀ k o, l[k]? = some o →
   (∀ e ∈ o.after, Region.binds .any e = true → e.on < i + k) ∧ ((∀ e ∈ o.after, Region.binds .any e = true → D e.on) → ∀ j d, dsts[j]? = some (some d) → d ∈ Oper.looksAt ops o → (j < i + k ∧ D j) ∨ (i + k < j ∧ (ms.getD j 0).testBit (i + k) = true))
 | [], _, _, _, _, _, _, k, o, hk => by simp at hk
 | o :: l, i, acc, h, hl, ha, hD, k, o', hk => by
  simp only [hangs, Bool.and_eq_true] at h
  obtain ⟨⟨h1, h2⟩, h3⟩ := h
  cases k with
  | zero =>
   simp at hk
   subst hk
   refine ⟨fun e he hb => ?_, fun hd j d hj hdl => ?_⟩
   ·have := List.all_eq_true.1 h1 e (by simpa using he)
    simp only [Bool.or_eq_true, Bool.not_eq_true'] at this
    rcases this with this | this
    ·rw [hb] at this; exact Bool.noConfusion this
    ·have := Nat.le_of_ble_eq_true this
     exact this
   ·rcases slotsOk_spec h2 j d hj hdl with ⟨p, q⟩ | ⟨p, q⟩
    ·simp only [Nat.zero_add] at p q
     exact .inl ⟨p, maskOf_in ha (fun e he hb => hd e (by simpa using he) hb) j q⟩
    ·simp only [Nat.zero_add] at p q
     exact .inr ⟨p, q⟩
  | succ k =>
   have ha' : MaskIn D (acc ++ [maskOf acc o.after.toList]) := by
    intro k m j hk hDk hm
    rcases Nat.lt_or_ge k acc.length with hlt | hge
    ·rw [List.getElem?_append_left hlt] at hk
     exact ha k m j hk hDk hm
    ·rw [List.getElem?_append_right hge] at hk
     have e : k = i := by
      rcases Nat.eq_zero_or_pos (k - acc.length) with e | e
      ·omega
      ·rw [List.getElem?_eq_none (by simp; omega)] at hk; simp at hk
     subst e
     rw [hl] at hk
     simp at hk
     subst hk
     exact maskOf_in ha (fun e he hb => hD 0 o (by simp) (by simpa using hDk) e (by simpa using he) hb) j hm
   have := hangs_spec (l := l) (i := i + 1) h3 (by simp [hl]) ha' (fun k o hk hDk => hD (k + 1) o (by simpa using hk) (by rwa [show i + (k + 1) = i + 1 + k by omega])) k o' (by simpa using hk)
   rwa [show i + 1 + k = i + (k + 1) by omega] at this
theorem find_upd_ne : ∀ (H : List (Nat × Blk)) (n m : Nat) (cs : List SC), m ≠ n → find (upd H m cs) n = find H n
 | [], _, _, _, _ => rfl
 | (k, x) :: H, n, m, cs, h => by
  simp only [upd]
  cases hkm : Nat.beq k m with
  | true =>
   have e := beq_len hkm
   subst e
   simp only [if_true, find]
   cases hkn : Nat.beq k n with
   | true => exact absurd (beq_len hkn) h
   | false => rfl
  | false =>
   simp only [Bool.false_eq_true, if_false, find]
   rw [find_upd_ne H n m cs h]
section
variable {P : Program} {rec : Rec} {B : Foot} {w0 : World} {S : List Sum} {ops : Array Oper}
structure Facts (B : Foot) (w0 : World) (P : Program) (ops : Array Oper) (st : Nat → St) (acc : Nat → Option Nat) : Prop where
 one : ∀ i o, ops[i]? = some o → ∃ b, wantS ops (st i).T o = some b ∧ (b = false → st (i + 1) = { st i with T := putT (st i).T o.dst undefS } ∧ acc i = none) ∧
  (b = true → acc i = accOf (st i).H (lookT (st i).T) (st i).nx o ∧ ∃ v, (st (i + 1)).T = putT (st i).T o.dst v ∧ Leaves (lookT (st i).T) o (st i) (st (i + 1)) ∧ Does P B w0 o (st i) (st (i + 1)) v)
def StoreAt (ops : Array Oper) (acc : Nat → Option Nat) (j n : Nat) : Prop := ∃ o, ops[j]? = some o ∧ isSt o = true ∧ acc j = some n
def NoSt (ops : Array Oper) (acc : Nat → Option Nat) (n i k : Nat) : Prop := ∀ j, i ≤ j → j < k → ¬ StoreAt ops acc j n
variable {st : Nat → St} {acc : Nat → Option Nat} (F : Facts B w0 P ops st acc)
include F
theorem Facts.cases {i : Nat} {o : Oper} (ho : ops[i]? = some o) : (∃ v, (st (i + 1)).T = putT (st i).T o.dst v) ∧
 (((st (i + 1)).H = (st i).H ∧ (st (i + 1)).nx = (st i).nx) ∨ (isSt o = false ∧ ∃ b, (st (i + 1)).H = ((st i).nx, b) :: (st i).H ∧ (st (i + 1)).nx = (st i).nx + 1) ∨ (isSt o = true ∧ (st (i + 1)).nx = (st i).nx ∧ ∃ n cs, acc i = some n ∧ (st (i + 1)).H = upd (st i).H n cs)) := by
 obtain ⟨b, _, h1, h2⟩ := F.one i o ho
 cases b with
 | false => rw [(h1 rfl).1]; exact ⟨⟨_, rfl⟩, .inl ⟨rfl, rfl⟩⟩
 | true =>
  obtain ⟨ha, v, h3, h4, _⟩ := h2 rfl
  refine ⟨⟨v, h3⟩, ?_⟩
  rcases h4 with ⟨_, h⟩ | ⟨q1, b, _, q3⟩ | ⟨q1, q2, n, cs, q3, _, q4⟩
  ·exact .inl h
  ·exact .inr (.inl ⟨q1, b, q3⟩)
  ·exact .inr (.inr ⟨q1, q2, n, cs, by rw [ha]; exact q3, q4⟩)
theorem Facts.nx_le : ∀ {i k : Nat}, i + k ≤ ops.size → (st i).nx ≤ (st (i + k)).nx
 | i, 0, _ => Nat.le_refl _
 | i, k + 1, h => by
  have ih := Facts.nx_le (i := i) (k := k) (by omega)
  obtain ⟨_, h1 | ⟨_, b, _, h1⟩ | ⟨_, h1, _⟩⟩ := F.cases (i := i + k) (o := ops[i + k]'(by omega)) (Array.getElem?_eq_getElem (by omega))
  ·rw [show i + (k + 1) = i + k + 1 by omega, h1.2]; exact ih
  ·rw [show i + (k + 1) = i + k + 1 by omega, h1]; omega
  ·rw [show i + (k + 1) = i + k + 1 by omega, h1]; exact ih
theorem Facts.nx_mono {i k : Nat} (h : i ≤ k) (hk : k ≤ ops.size) : (st i).nx ≤ (st k).nx := by
 have := F.nx_le (i := i) (k := k - i) (by omega)
 rwa [show i + (k - i) = k by omega] at this
theorem Facts.len : ∀ {i : Nat}, i ≤ ops.size → (st i).T.length = (st 0).T.length
 | 0, _ => rfl
 | i + 1, h => by
  obtain ⟨⟨v, hv⟩, _⟩ := F.cases (i := i) (o := ops[i]'(by omega)) (Array.getElem?_eq_getElem (by omega))
  rw [hv, ← Facts.len (i := i) (by omega)]
  cases (ops[i]'(by omega)).dst <;> simp [putT]
theorem Facts.keep : ∀ {i k t : Nat}, i + k ≤ ops.size → (∀ j o, i ≤ j → j < i + k → ops[j]? = some o → o.dst ≠ some t) → (st (i + k)).T[t]? = (st i).T[t]?
 | i, 0, t, _, _ => rfl
 | i, k + 1, t, h, hk => by
  have ih := Facts.keep (i := i) (k := k) (t := t) (by omega) fun j o h1 h2 => hk j o h1 (by omega)
  have ho : ops[i + k]? = some (ops[i + k]'(by omega)) := Array.getElem?_eq_getElem (by omega)
  obtain ⟨⟨v, hv⟩, _⟩ := F.cases ho
  have hd := hk (i + k) _ (by omega) (by omega) ho
  rw [show i + (k + 1) = i + k + 1 by omega, hv, ← ih]
  cases hdst : (ops[i + k]'(by omega)).dst with
  | none => rfl
  | some d =>
   rw [hdst] at hd
   simp only [putT]
   rw [List.getElem?_set_ne (fun e => hd (by rw [e]))]
theorem Facts.names (h0 : ∀ n b, find (st 0).H n = some b → n < (st 0).nx) : ∀ {i : Nat}, i ≤ ops.size → ∀ n b, find (st i).H n = some b → n < (st i).nx
 | 0, _ => h0
 | i + 1, h => fun n b hn => by
  have ih := Facts.names h0 (i := i) (by omega)
  obtain ⟨_, h1 | ⟨_, b', h1, h2⟩ | ⟨_, h2, m, cs, _, h1⟩⟩ := F.cases (i := i) (o := ops[i]'(by omega)) (Array.getElem?_eq_getElem (by omega))
  ·rw [h1.2]; rw [h1.1] at hn; exact ih n b hn
  ·rw [h2]
   rw [h1] at hn
   simp only [find] at hn
   split at hn
   ·rename_i e; have := beq_len e; omega
   ·have := ih n b hn; omega
  ·rw [h2]
   rw [h1] at hn
   rcases find_upd _ _ n _ b hn with ⟨rfl, b0, hb0, _⟩ | ⟨_, hb⟩
   ·exact ih _ b0 hb0
   ·exact ih n b hb
theorem Facts.heap_le (h0 : ∀ n b, find (st 0).H n = some b → n < (st 0).nx) {n : Nat} : ∀ {i k : Nat}, i + k ≤ ops.size → NoSt ops acc n i (i + k) → ∀ b, find (st i).H n = some b → find (st (i + k)).H n = some b
 | i, 0, _, _, b, hn => hn
 | i, k + 1, h, hno, b, hn => by
  have ih := Facts.heap_le h0 (n := n) (i := i) (k := k) (by omega) (fun j h1 h2 => hno j h1 (by omega)) b hn
  have ho : ops[i + k]? = some (ops[i + k]'(by omega)) := Array.getElem?_eq_getElem (by omega)
  obtain ⟨_, h1 | ⟨_, b', h1, h2⟩ | ⟨h2, _, m, cs, ha, h1⟩⟩ := F.cases (i := i + k) (o := ops[i + k]'(by omega)) ho
  ·rw [show i + (k + 1) = i + k + 1 by omega, h1.1]; exact ih
  ·rw [show i + (k + 1) = i + k + 1 by omega, h1]
   have := F.names h0 (i := i + k) (by omega) n b ih
   simp only [find]
   rw [if_neg (fun e => by have := beq_len e; omega)]
   exact ih
  ·rw [show i + (k + 1) = i + k + 1 by omega, h1, find_upd_ne _ _ _ _ (fun e => hno (i + k) (by omega) (by omega) ⟨_, ho, h2, by rw [ha, e]⟩)]
   exact ih
theorem Facts.heap (h0 : ∀ n b, find (st 0).H n = some b → n < (st 0).nx) {n i k : Nat} (h : i ≤ k) (hk : k ≤ ops.size) (hno : NoSt ops acc n i k) {b : Blk} (hb : find (st i).H n = some b) : find (st k).H n = some b := by
 have := F.heap_le h0 (n := n) (i := i) (k := k - i) (by omega) (by rwa [show i + (k - i) = k by omega]) b hb
 rwa [show i + (k - i) = k by omega] at this
theorem Facts.back_le {n : Nat} : ∀ {i k : Nat}, i + k ≤ ops.size → NoSt ops acc n i (i + k) → n < (st i).nx → ∀ b, find (st (i + k)).H n = some b → find (st i).H n = some b
 | i, 0, _, _, _, b, hn => hn
 | i, k + 1, h, hno, hlt, b, hn => by
  have ih := Facts.back_le (n := n) (i := i) (k := k) (by omega) (fun j h1 h2 => hno j h1 (by omega)) hlt b
  have hle := F.nx_le (i := i) (k := k) (by omega)
  have ho : ops[i + k]? = some (ops[i + k]'(by omega)) := Array.getElem?_eq_getElem (by omega)
  obtain ⟨_, h1 | ⟨_, b', h1, h2⟩ | ⟨h2, _, m, cs, ha, h1⟩⟩ := F.cases (i := i + k) (o := ops[i + k]'(by omega)) ho
  ·rw [show i + (k + 1) = i + k + 1 by omega, h1.1] at hn; exact ih hn
  ·rw [show i + (k + 1) = i + k + 1 by omega, h1] at hn
   simp only [find] at hn
   rw [if_neg (fun e => by have := beq_len e; omega)] at hn
   exact ih hn
  ·rw [show i + (k + 1) = i + k + 1 by omega, h1, find_upd_ne _ _ _ _ (fun e => hno (i + k) (by omega) (by omega) ⟨_, ho, h2, by rw [ha, e]⟩)] at hn
   exact ih hn
theorem Facts.back {n i k : Nat} (h : i ≤ k) (hk : k ≤ ops.size) (hno : NoSt ops acc n i k) (hlt : n < (st i).nx) {b : Blk} (hb : find (st k).H n = some b) : find (st i).H n = some b :=
 F.back_le (n := n) (i := i) (k := k - i) (by omega) (by rwa [show i + (k - i) = k by omega]) hlt b (by rwa [show i + (k - i) = k by omega])
theorem Facts.back0 (h0 : ∀ n b, find (st 0).H n = some b → n < (st 0).nx) {n : Nat} : ∀ {k : Nat}, k ≤ ops.size → ∀ {b : Blk}, find (st k).H n = some b →
 (n < (st 0).nx → ∃ b0, find (st 0).H n = some b0 ∧ b.arr = b0.arr ∧ b.own = b0.own ∧ b.elem = b0.elem) ∧ ((st 0).nx ≤ n → ∃ j b1, j < k ∧ (st j).nx = n ∧ (st j).nx < (st (j + 1)).nx ∧ find (st (j + 1)).H n = some b1 ∧ b.arr = b1.arr ∧ b.own = b1.own ∧ b.elem = b1.elem)
 | 0, _, b, hf => ⟨fun _ => ⟨b, hf, rfl, rfl, rfl⟩, fun h => by have := h0 n b hf; omega⟩
 | k + 1, hk, b, hf => by
  obtain ⟨_, hc⟩ := F.cases (i := k) (Array.getElem?_eq_getElem (show k < ops.size by omega))
  have h0k := F.nx_mono (i := 0) (k := k) (by omega) (by omega)
  have hfk := hf
  have up : ∀ {b0 : Blk}, find (st k).H n = some b0 → b.arr = b0.arr → b.own = b0.own → b.elem = b0.elem → (n < (st 0).nx → ∃ b0, find (st 0).H n = some b0 ∧ b.arr = b0.arr ∧ b.own = b0.own ∧ b.elem = b0.elem) ∧ ((st 0).nx ≤ n → ∃ j b1, j < k + 1 ∧ (st j).nx = n ∧ (st j).nx < (st (j + 1)).nx ∧ find (st (j + 1)).H n = some b1 ∧ b.arr = b1.arr ∧ b.own = b1.own ∧ b.elem = b1.elem) := by
   intro b0 h2 e1 e2 e3
   obtain ⟨q1, q2⟩ := Facts.back0 h0 (k := k) (by omega) h2
   refine ⟨fun h => ?_, fun h => ?_⟩
   ·obtain ⟨c, c1, c2, c3, c4⟩ := q1 h
    exact ⟨c, c1, by rw [e1, c2], by rw [e2, c3], by rw [e3, c4]⟩
   ·obtain ⟨j, c, d1, d2, d3, c1, c2, c3, c4⟩ := q2 h
    exact ⟨j, c, by omega, d2, d3, c1, by rw [e1, c2], by rw [e2, c3], by rw [e3, c4]⟩
  rcases hc with ⟨e1, e2⟩ | ⟨_, b1, e1, e2⟩ | ⟨_, e2, m, cs, _, e1⟩
  ·rw [e1] at hf
   exact up hf rfl rfl rfl
  ·rw [e1] at hf
   rcases find_cons hf with ⟨rfl, rfl⟩ | ⟨_, h2⟩
   ·exact ⟨fun h => by omega, fun _ => ⟨k, b, by omega, rfl, by omega, hfk, rfl, rfl, rfl⟩⟩
   ·exact up h2 rfl rfl rfl
  ·rw [e1] at hf
   rcases find_upd _ _ _ _ _ hf with ⟨rfl, b0, h2, rfl⟩ | ⟨_, h2⟩
   ·exact up h2 rfl rfl rfl
   ·exact up h2 rfl rfl rfl
end
theorem sameB_self (n : Nat) : sameB (some n) (some n) = true := Nat.beq_refl n
theorem accRow_spec {ms : List Nat} {i n : Nat} : ∀ {l : List (Option Nat)} {k : Nat}, accRow ms i (some n) k l = true → ∀ j : Nat, l[j]? = some (some n) → (k + j < i → (ms.getD i 0).testBit (k + j) = true) ∧ (i < k + j → (ms.getD (k + j) 0).testBit i = true)
 | [], _, _, j, h => by simp at h
 | y :: l, k, h, j, hj => by
  simp only [accRow, Bool.and_eq_true] at h
  cases j with
  | zero =>
   simp at hj
   subst hj
   have h1 := h.1
   simp only [sameB_self, Bool.not_true, Bool.false_or, Bool.and_eq_true, Bool.or_eq_true, Bool.not_eq_true'] at h1
   refine ⟨fun hlt => ?_, fun hlt => ?_⟩
   ·rcases h1.1 with e | e
    ·exact absurd (Nat.ble_eq_true_of_le (show k + 1 ≤ i by omega)) (by have e' : Nat.ble (k + 1) i = false := e; rw [e']; simp)
    ·exact e
   ·rcases h1.2 with e | e
    ·exact absurd (Nat.ble_eq_true_of_le (show i + 1 ≤ k by omega)) (by have e' : Nat.ble (i + 1) k = false := e; rw [e']; simp)
    ·exact e
  | succ j =>
   have := accRow_spec (l := l) (k := k + 1) h.2 j (by simpa using hj)
   rwa [show k + 1 + j = k + (j + 1) by omega] at this
theorem accAll_spec {ms : List Nat} {all : List (Option Nat)} : ∀ {l : List Oper} {ns : List (Option Nat)} {k : Nat}, accAll ms all k l ns = true → ∀ (i : Nat) (o : Oper) (n : Nat), l[i]? = some o → ns[i]? = some (some n) → isSt o = true → accRow ms (k + i) (some n) 0 all = true
 | [], _, _, _, i, o, n, h, _, _ => by simp at h
 | _ :: _, [], _, _, i, o, n, _, h, _ => by simp at h
 | y :: l, m :: ns, k, h, i, o, n, hi, hn, hs => by
  simp only [accAll, Bool.and_eq_true] at h
  cases i with
  | zero => simp at hi hn; subst hi hn; simpa [hs] using h.1
  | succ i =>
   have := accAll_spec (l := l) (ns := ns) (k := k + 1) h.2 i o n (by simpa using hi) (by simpa using hn) hs
   rwa [show k + 1 + i = k + (i + 1) by omega] at this
theorem masks_in {D : Nat → Prop} : ∀ {l : List Oper} {acc : List Nat}, MaskIn D acc → (∀ k o, l[k]? = some o → D (acc.length + k) → ∀ e ∈ o.after, Region.binds .any e = true → D e.on) → MaskIn D (masks acc l)
 | [], _, ha, _ => ha
 | o :: l, acc, ha, hD => by
  simp only [masks]
  refine masks_in (l := l) ?_ fun k o' hk hd => ?_
  ·intro k m j hk hDk hm
   rcases Nat.lt_or_ge k acc.length with hlt | hge
   ·rw [List.getElem?_append_left hlt] at hk
    exact ha k m j hk hDk hm
   ·rw [List.getElem?_append_right hge] at hk
    have e : k = acc.length := by
     rcases Nat.eq_zero_or_pos (k - acc.length) with e | e
     ·omega
     ·rw [List.getElem?_eq_none (by simp; omega)] at hk; simp at hk
    subst e
    simp at hk
    subst hk
    exact maskOf_in ha (fun e he hb => hD 0 o (by simp) (by simpa using hDk) e (by simpa using he) hb) j hm
  ·exact hD (k + 1) o' (by simpa using hk) (by simp at hd; rwa [show acc.length + (k + 1) = acc.length + 1 + k by omega])
end Go.Proofs.YtdioaiepkhepaaaGreatDoor
namespace Go.Proofs.YtdioaiepkhepaaaGreatDoor
open Go.RowKit
section
variable {P : Program} {rec : Rec} {B : Foot} {w0 : World} (hB : B.base ≤ w0.heap.size) {S : List Sum} {ops : Array Oper} {st : Nat → St} {acc : Nat → Option Nat}
def Mem (B : Foot) (ops : Array Oper) (acc : Nat → Option Nat) (st : Nat → St) (L : Array Bool) (ρ : Rho) (w : World) : Prop :=
 ∃ v : Nat → Nat, (∀ n, v n ≤ ops.size) ∧ (∀ n, v n < ops.size → StoreAt ops acc (v n) n ∧ L.getD (v n) false = false) ∧ (∀ n j, j < v n → StoreAt ops acc j n → L.getD j false = true) ∧
  ∀ n b, find (st (v n)).H n = some b → BRel B ρ w n b
def Qx (ops : Array Oper) (st : Nat → St) (L : Array Bool) (n : Nat) (b : Blk) : Prop :=
 find (st 0).H n = some b ∨ ∃ j, j < ops.size ∧ L.getD j false = true ∧ (st j).nx = n ∧ (st j).nx < (st (j + 1)).nx ∧ find (st (j + 1)).H n = some b ∧ b.arr ≠ none
def XJ (B : Foot) (ops : Array Oper) (st : Nat → St) (L : Array Bool) (ρ : Rho) (w : World) : Prop :=
 ∃ H', (∀ n b, Qx ops st L n b → find H' n = some b) ∧ XRel B ρ H' w
theorem XJ.mem {B : Foot} {ops : Array Oper} {st : Nat → St} {L : Array Bool} {ρ : Rho} {w : World} (h : XJ B ops st L ρ w) : ∀ a v, ρ.m a = some v → w.cell? a = some v := by
 obtain ⟨_, _, X⟩ := h
 exact X.mem
theorem XJ.mono {B : Foot} {ops : Array Oper} {st : Nat → St} {L L' : Array Bool} {ρ ρ' : Rho} {w w' : World} (h : XJ B ops st L ρ w) (hq : ∀ n b, Qx ops st L' n b → Qx ops st L n b) (k : ∀ H', XRel B ρ H' w → XRel B ρ' H' w') : XJ B ops st L' ρ' w' := by
 obtain ⟨H', h1, h2⟩ := h
 exact ⟨H', fun n b hb => h1 n b (hq n b hb), k H' h2⟩
structure Jn (B : Foot) (w0 : World) (ops : Array Oper) (acc : Nat → Option Nat) (st : Nat → St) (ρ0 : Rho) (L : Array Bool) (ρ : Rho) (a : Act) (w : World) : Prop where
 ext : Ext ρ0 ρ
 size : L.size = ops.size
 down : ∀ k o, ops[k]? = some o → L.getD k false = true → ∀ e ∈ o.after, Region.binds .any e = true → L.getD e.on false = true
 tsz : a.tmps.size = (st 0).T.length
 done : ∀ j o t sv, ops[j]? = some o → o.dst = some t → L.getD j false = true → (st ops.size).T[t]? = some sv → ∃ v, a.tmps[t]? = some v ∧ VRel ρ sv v
 todo : ∀ t sv, (∀ j o, ops[j]? = some o → o.dst = some t → L.getD j false = false) → (st 0).T[t]? = some sv → ∃ v, a.tmps[t]? = some v ∧ VRel ρ sv v
 nam : NRel ρ w
 mem : Mem B ops acc st L ρ w
 below : BelowF B w0 w
 defers : a.defers = []
 fr : ∀ j, j < ops.size → L.getD j false = false → (st j).nx < (st (j + 1)).nx → ρ (st j).nx = none
 fr2 : ∀ m, (st ops.size).nx ≤ m → ρ m = none
 xr : XJ B ops st L ρ w
 off2 : ∀ n x, (st 0).nx ≤ n → ρ n = some x → ∀ a : Addr, a.block = x → ρ.m a = none
 made : ∀ j, j < ops.size → L.getD j false = true → (st j).nx < (st (j + 1)).nx → (∀ b, find (st (j + 1)).H (st j).nx = some b → b.arr = none) → ∃ x, ρ (st j).nx = some x
 fra : ∀ j, j < ops.size → L.getD j false = false → (st j).nx < (st (j + 1)).nx → ρ.a (st j).nx = none
 fra2 : ∀ m, (st ops.size).nx ≤ m → ρ.a m = none
variable (F : Facts B w0 P ops st acc) (hd : apartD (ops.toList.map (·.dst)) = true)
theorem getD_set {L : Array Bool} {i j : Nat} (hi : i < L.size) : (L.setIfInBounds i true).getD j false = if j = i then true else L.getD j false := by
 split
 ·rename_i e; subst e; simp [hi]
 ·rename_i e; exact getD_set_ne false (fun e' => e e'.symm)
include F hd
theorem Jn.next {ρ0 : Rho} {L : Array Bool} {ρ ρ' : Rho} {a : Act} {w w' : World} (J : Jn B w0 ops acc st ρ0 L ρ a w) {i : Nat} {o : Oper} (ho : ops[i]? = some o) (hpre : ∀ e ∈ o.after, Region.binds .any e = true → L.getD e.on false = true)
 {v : SV} {x : Value} (hT : (st (i + 1)).T = putT (st i).T o.dst v) (hv : VRel ρ' v x) (hx : Ext ρ ρ') (hnm : NRel ρ' w') (hm : Mem B ops acc st (L.setIfInBounds i true) ρ' w') (hb : BelowF B w0 w')
 (hfr : ∀ m, ρ m = none → ((st i).nx < (st (i + 1)).nx → m ≠ (st i).nx) → ρ' m = none) (hxr : XJ B ops st (L.setIfInBounds i true) ρ' w') (hoff : ∀ n x, (st 0).nx ≤ n → ρ' n = some x → ∀ a : Addr, a.block = x → ρ'.m a = none) (hmd : (st i).nx < (st (i + 1)).nx → (∀ b, find (st (i + 1)).H (st i).nx = some b → b.arr = none) → ∃ x, ρ' (st i).nx = some x) (hfa : ∀ m, ρ.a m = none → ((st i).nx < (st (i + 1)).nx → m ≠ (st i).nx) → ρ'.a m = none) : Jn B w0 ops acc st ρ0 (L.setIfInBounds i true) ρ' (a.put o.dst x) w' := by
 have hi : i < ops.size := (Array.getElem?_eq_some_iff.1 ho).1
 have hiL : i < L.size := by rw [J.size]; exact hi
 have dst_eq : ∀ j o', ops[j]? = some o' → ∀ t, o'.dst = some t → o.dst = some t → j = i := fun j o' hj t h1 h2 =>
  apartD_spec hd j i t (by simp [hj, h1]) (by simp [ho, h2])
 refine ⟨J.ext.trans hx, by simp [J.size], fun k o' hk hL e he hbn => ?_, ?_, fun j o' t sv hj hdst hL hs => ?_, fun t sv hn hs => ?_, hnm, hm, hb, put_defers _ _ J.defers, fun j hj hL hlt => ?_, fun m hm' => ?_, hxr, hoff, fun j hj hL hlt hbk => ?_, fun j hj hL hlt => ?_, fun m hm' => ?_⟩
 ·rw [getD_set hiL] at hL ⊢
  split
  ·rfl
  ·split at hL
   ·rename_i e; subst e; rw [ho] at hk; cases hk; exact hpre e he hbn
   ·exact J.down k o' hk hL e he hbn
 ·rw [← J.tsz]; cases o.dst <;> simp [Act.put]
 ·by_cases e : j = i
  ·subst e
   rw [ho] at hj
   cases hj
   have hk := F.keep (i := j + 1) (k := ops.size - (j + 1)) (t := t) (by omega) (fun k o' h1 h2 hk hdk => by have := dst_eq k o' hk t hdk hdst; omega)
   rw [show j + 1 + (ops.size - (j + 1)) = ops.size by omega] at hk
   rw [hk, hT, hdst] at hs
   simp only [putT] at hs
   have hlt : t < (st j).T.length := by
    rcases Nat.lt_or_ge t (st j).T.length with h | h
    ·exact h
    ·rw [List.getElem?_eq_none (by simpa using h)] at hs; simp at hs
   rw [List.getElem?_set_self hlt] at hs
   simp at hs
   subst hs
   refine ⟨x, ?_, hv⟩
   rw [hdst]
   simp only [Act.put]
   have : t < a.tmps.size := by rw [J.tsz, ← F.len (i := j) (by omega)]; exact hlt
   simp [this]
  ·rw [getD_set hiL, if_neg e] at hL
   obtain ⟨u, hu, hr⟩ := J.done j o' t sv hj hdst hL hs
   refine ⟨u, ?_, VRel.mono hx hr⟩
   cases hod : o.dst with
   | none => exact hu
   | some d =>
    simp only [Act.put]
    rw [Array.getElem?_setIfInBounds_ne (fun e' => e (dst_eq j o' hj t hdst (by rw [hod, e'])))]
    exact hu
 ·have hnd : o.dst ≠ some t := fun e => by
   have := hn i o ho e
   rw [getD_set hiL, if_pos rfl] at this
   exact Bool.noConfusion this
  obtain ⟨u, hu, hr⟩ := J.todo t sv (fun j o' hj hdst => by
   have := hn j o' hj hdst
   rw [getD_set hiL] at this
   split at this
   ·exact Bool.noConfusion this
   ·exact this) hs
  refine ⟨u, ?_, VRel.mono hx hr⟩
  cases hod : o.dst with
  | none => exact hu
  | some d =>
   simp only [Act.put]
   rw [Array.getElem?_setIfInBounds_ne (fun e' => hnd (by rw [hod, e']))]
   exact hu
 ·rw [getD_set hiL] at hL
  split at hL
  ·exact Bool.noConfusion hL
  ·rename_i e
   refine hfr _ (J.fr j hj hL hlt) fun hlt' heq => ?_
   rcases Nat.lt_or_ge j i with h | h
   ·have := F.nx_mono (i := j + 1) (k := i) (by omega) (by omega); omega
   ·have := F.nx_mono (i := i + 1) (k := j) (by omega) (by omega); omega
 ·refine hfr m (J.fr2 m hm') fun hlt' heq => ?_
  have := F.nx_mono (i := i + 1) (k := ops.size) (by omega) (Nat.le_refl _)
  omega
 ·by_cases e : j = i
  ·subst e
   exact hmd hlt hbk
  ·rw [getD_set hiL, if_neg e] at hL
   obtain ⟨x, hx'⟩ := J.made j hj hL hlt hbk
   exact ⟨x, hx.b _ _ hx'⟩
 ·rw [getD_set hiL] at hL
  split at hL
  ·exact Bool.noConfusion hL
  ·rename_i e
   refine hfa _ (J.fra j hj hL hlt) fun hlt' heq => ?_
   rcases Nat.lt_or_ge j i with h | h
   ·have := F.nx_mono (i := j + 1) (k := i) (by omega) (by omega); omega
   ·have := F.nx_mono (i := i + 1) (k := j) (by omega) (by omega); omega
 ·refine hfa m (J.fra2 m hm') fun hlt' heq => ?_
  have := F.nx_mono (i := i + 1) (k := ops.size) (by omega) (Nat.le_refl _)
  omega
variable (hh : hangs (ops.toList.map (·.dst)) ops (masks [] ops.toList) 0 [] ops.toList = true)
 (hst : ∀ s j n, StoreAt ops acc s n → j < ops.size → acc j = some n → (j < s → ((masks [] ops.toList).getD s 0).testBit j = true) ∧ (s < j → ((masks [] ops.toList).getD j 0).testBit s = true))
 (h0 : ∀ n b, find (st 0).H n = some b → n < (st 0).nx)
include hB hh hst h0
omit hB hd hh hst in
theorem Jn.last {ρ0 : Rho} {L : Array Bool} {ρ : Rho} {a : Act} {w : World} (J : Jn B w0 ops acc st ρ0 L ρ a w) (hall : ∀ j, j < ops.size → L.getD j false = true) : StRel B w0 ρ (st ops.size) a w := by
 have hmem : HRel B ρ (st ops.size).H w := by
  obtain ⟨v, h1, h2, h3, h4⟩ := J.mem
  refine ⟨J.nam.lt, J.nam.inj, fun n b x hb hx => h4 n b ?_ x hx⟩
  have : v n = ops.size := by
   rcases Nat.lt_or_ge (v n) ops.size with hlt | hge
   ·obtain ⟨_, hL⟩ := h2 n hlt
    rw [hall _ hlt] at hL
    exact Bool.noConfusion hL
   ·have := h1 n; omega
  rw [this]
  exact hb
 have hxr : XRel B ρ (st ops.size).H w := by
  obtain ⟨H', hq, X⟩ := J.xr
  have arrs : ∀ {n : Nat} {b : Blk}, find (st ops.size).H n = some b → b.arr ≠ none → ∃ b0, find H' n = some b0 ∧ b.arr = b0.arr ∧ b.own = b0.own ∧ b.elem = b0.elem := fun {n b} hf hb => by
   rcases Nat.lt_or_ge n (st 0).nx with hlt | hge
   ·obtain ⟨b0, h1, h2⟩ := (F.back0 h0 (Nat.le_refl _) hf).1 hlt
    exact ⟨b0, hq n b0 (.inl h1), h2⟩
   ·obtain ⟨j, b1, hj, h1, h2, h3, h4, h5⟩ := (F.back0 h0 (Nat.le_refl _) hf).2 hge
    exact ⟨b1, hq n b1 (.inr ⟨j, hj, hall j hj, h1, h2, h3, by rw [← h4]; exact hb⟩), h4, h5⟩
  refine ⟨X.mem, fun n b x hf hx a ha => ?_, fun n b κs c A hf hb hA => ?_, fun n b A g hf hb hA hg => ?_, fun n b hf => ?_, fun n n' b b' A A' g hf hf' hb hb' hA hA' hg hg' => ?_⟩
  ·rcases Nat.lt_or_ge n (st 0).nx with hlt | hge
   ·obtain ⟨b0, h1, _⟩ := (F.back0 h0 (Nat.le_refl _) hf).1 hlt
    exact X.off n b0 x (hq n b0 (.inl h1)) hx a ha
   ·exact J.off2 n x hge hx a ha
  ·obtain ⟨b0, h1, h2, h3, h4⟩ := arrs hf (by rw [hb]; simp)
   rw [h4]
   exact X.arr n b0 κs c A h1 (by rw [← h2]; exact hb) hA
  ·obtain ⟨b0, h1, h2, h3, h4⟩ := arrs hf hb
   rw [h3]
   exact X.offa n b0 A g h1 (by rw [← h2]; exact hb) hA hg
  ·refine ⟨fun hb => ?_, fun hb => ?_⟩
   ·obtain ⟨b0, h1, h2, _⟩ := arrs hf hb
    exact (X.has n b0 h1).1 (by rw [← h2]; exact hb)
   ·rcases Nat.lt_or_ge n (st 0).nx with hlt | hge
    ·obtain ⟨b0, h1, h2, _⟩ := (F.back0 h0 (Nat.le_refl _) hf).1 hlt
     exact (X.has n b0 (hq n b0 (.inl h1))).2 (by rw [← h2]; exact hb)
    ·obtain ⟨j, b1, hj, h1, h2, h3, h4, _⟩ := (F.back0 h0 (Nat.le_refl _) hf).2 hge
     rw [← h1]
     refine J.made j hj (hall j hj) h2 fun c hc => ?_
     rw [h1, h3] at hc
     cases hc
     rw [← h4]
     exact hb
  ·obtain ⟨b0, k1, k2, _⟩ := arrs hf hb
   obtain ⟨b1, k3, k4, _⟩ := arrs hf' hb'
   exact X.inja n n' b0 b1 A A' g k1 k3 (by rw [← k2]; exact hb) (by rw [← k4]; exact hb') hA hA' hg hg'
 refine ⟨⟨hmem, hxr, J.below, J.fr2, J.fra2, F.names h0 (Nat.le_refl _)⟩, ?_, J.defers⟩
 have key : ∀ (T : List SV) (vs : List Value), T.length = vs.length → (∀ (t : Nat) (sv : SV), T[t]? = some sv → ∃ v, vs[t]? = some v ∧ VRel ρ sv v) → VsRel ρ T vs := by
  intro T
  induction T with
  | nil => intro vs hl _; cases vs with
   | nil => trivial
   | cons v vs => simp at hl
  | cons s T ih => intro vs hl hk; cases vs with
   | nil => simp at hl
   | cons v vs =>
    obtain ⟨u, hu, hr⟩ := hk 0 s rfl
    simp at hu
    subst hu
    exact ⟨hr, ih vs (by simpa using hl) fun t sv ht => by simpa using hk (t + 1) sv (by simpa using ht)⟩
 refine key _ _ (by rw [F.len (Nat.le_refl _), ← J.tsz]; simp) fun t sv ht => ?_
 classical
 by_cases h : ∃ (j : Nat) (o : Oper), ops[j]? = some o ∧ o.dst = some t
 ·obtain ⟨j, o, hj, hdst⟩ := h
  obtain ⟨v, hv, hr⟩ := J.done j o t sv hj hdst (hall j (Array.getElem?_eq_some_iff.1 hj).1) ht
  exact ⟨v, by simpa using hv, hr⟩
 ·have hk := F.keep (i := 0) (k := ops.size) (t := t) (by omega) (fun j o _ _ hj hdst => h ⟨j, o, hj, hdst⟩)
  simp only [Nat.zero_add] at hk
  rw [hk] at ht
  obtain ⟨v, hv, hr⟩ := J.todo t sv (fun j o hj hdst => absurd ⟨j, o, hj, hdst⟩ h) ht
  exact ⟨v, by simpa using hv, hr⟩
set_option maxHeartbeats 2000000 in
theorem Jn.any {ρ0 : Rho} {Q : Exit → Act → World → Prop} (hQ : ∀ ρ a w, Ext ρ0 ρ → StRel B w0 ρ (st ops.size) a w → Q .normal a w) : ∀ (fuel : Nat) (L : Array Bool) (ρ : Rho) (a : Act) (w : World), Jn B w0 ops acc st ρ0 L ρ a w →
 cnt (fun j => L.getD j false) ops.size ≤ fuel → wpAny P .any ops Q fuel L a w := by
 have back : ∀ k o, ops[k]? = some o → ∀ e ∈ o.after, Region.binds .any e = true → e.on < k := fun k o hk e he hb => by
  have := (hangs_spec (D := fun _ => True) hh rfl (fun _ _ _ h => by simp at h) (fun _ _ _ _ _ _ _ => trivial) k o (by simpa using hk)).1 e he hb
  simpa using this
 have fin : ∀ (L : Array Bool) (ρ : Rho) (a : Act) (w : World), Jn B w0 ops acc st ρ0 L ρ a w → (∀ j, j < ops.size → L.getD j false = true) → Q .normal a w := fun L ρ a w J hall => hQ ρ a w J.ext (J.last F h0 hall)
 have gtrue : ∀ (L : Array Bool) (j : Nat), L.size = ops.size → j < ops.size → L.getD j true = L.getD j false := fun L j hl hj => by
  have : j < L.size := by omega
  simp [Array.getD, this]
 intro fuel
 induction fuel with
 | zero =>
  intro L ρ a w J hc
  have hall := cnt_zero (L := fun j => L.getD j false) (n := ops.size) (by omega)
  refine ⟨?_, fin L ρ a w J hall⟩
  cases hr : Region.ready .any ops L with
  | nil => rfl
  | cons j js =>
   have hj : j ∈ Region.ready .any ops L := by rw [hr]; simp
   obtain ⟨h1, o, ho, _⟩ := mem_ready.1 hj
   have hlt := (Array.getElem?_eq_some_iff.1 ho).1
   rw [gtrue L j J.size hlt] at h1
   have h2 := hall j hlt
   rw [show L.getD j false = true from h2] at h1
   exact Bool.noConfusion h1
 | succ fuel ih =>
  intro L ρ a w J hc
  refine ⟨fun hr => fin L ρ a w J ?_, fun i hi => ?_⟩
  ·have key : ∀ n j, j < n → j < ops.size → L.getD j false = true := by
    intro n
    induction n with
    | zero => intro j hj; omega
    | succ n ihn =>
     intro j hj hjs
     cases hL : L.getD j false with
     | true => rfl
     | false =>
      exfalso
      have hmem : j ∈ Region.ready .any ops L := mem_ready.2 ⟨by rw [gtrue L j J.size hjs]; exact hL, _, Array.getElem?_eq_getElem hjs, fun e he hb => by
       have := back j _ (Array.getElem?_eq_getElem hjs) e he hb
       exact ihn e.on (by omega) (by omega)⟩
      rw [hr] at hmem
      cases hmem
   exact fun j hj => key ops.size j hj hj
  ·obtain ⟨h1, o, ho, hpre⟩ := mem_ready.1 hi
   have hlt := (Array.getElem?_eq_some_iff.1 ho).1
   rw [gtrue L i J.size hlt] at h1
   have hiL : i < L.size := by rw [J.size]; exact hlt
   have hcnt : cnt (fun j => (L.setIfInBounds i true).getD j false) ops.size ≤ fuel := by
    have := cnt_set (L := fun j => L.getD j false) (L' := fun j => (L.setIfInBounds i true).getD j false) (i := i) h1 (by show (L.setIfInBounds i true).getD i false = true; rw [getD_set hiL, if_pos rfl]) (fun j hj => by show (L.setIfInBounds i true).getD j false = L.getD j false; rw [getD_set hiL, if_neg hj]) hlt
    omega
   have closed : ∀ {D : Nat → Prop}, (∀ k o, ops[k]? = some o → D k → ∀ e ∈ o.after, Region.binds .any e = true → D e.on) → ∀ {k m j : Nat}, (masks [] ops.toList).getD k 0 = m → D k → m.testBit j = true → D j := by
    intro D hD k m j hk hDk hm
    have hin := masks_in (D := D) (l := ops.toList) (acc := []) (fun _ _ _ h => by simp at h) (fun k o hk hd => hD k o (by simpa using hk) (by simpa using hd))
    cases hq : (masks [] ops.toList)[k]? with
    | none => simp [List.getD, hq] at hk; subst hk; simp at hm
    | some q => simp [List.getD, hq] at hk; subst hk; exact hin k q j hq hDk hm
   have slots : ∀ t ∈ Oper.looksAt ops o, ∀ sv, (st i).T[t]? = some sv → ∃ v, a.tmps[t]? = some v ∧ VRel ρ sv v := by
    intro t ht sv hs
    classical
    by_cases h : ∃ (j : Nat) (o' : Oper), ops[j]? = some o' ∧ o'.dst = some t
    ·obtain ⟨j, o', hj, hdst⟩ := h
     have hsp := (hangs_spec (D := fun j => j = i ∨ L.getD j false = true) hh rfl (fun _ _ _ h => by simp at h) (fun k o2 hk hD e he hb => by
      have hk' : ops[k]? = some o2 := by simpa using hk
      simp only [Nat.zero_add] at hD
      rcases hD with rfl | hD
      ·rw [ho] at hk'; cases hk'; exact .inr (hpre e he hb)
      ·exact .inr (J.down k o2 hk' hD e he hb)) i o (by simpa using ho)).2 (fun e he hb => .inr (hpre e he hb)) j t (by simp [hj, hdst]) ht
     simp only [Nat.zero_add] at hsp
     have uniq : ∀ k o2, ops[k]? = some o2 → o2.dst = some t → k = j := fun k o2 hk hk2 => apartD_spec hd k j t (by simp [hk, hk2]) (by simp [hj, hdst])
     rcases hsp with hsp | ⟨hij, hbit⟩
     case inr =>
      have hLj : L.getD j false = false := by
       cases hq : L.getD j false with
       | false => rfl
       | true =>
        have hD := closed (D := fun k => L.getD k false = true) J.down rfl hq hbit
        rw [h1] at hD
        exact Bool.noConfusion hD
      have hk := F.keep (i := 0) (k := i) (t := t) (by omega) (fun j' o' _ hlt' hj' hdst' => by have := uniq j' o' hj' hdst'; omega)
      simp only [Nat.zero_add] at hk
      exact J.todo t sv (fun j' o' hj' hdst' => by rw [uniq j' o' hj' hdst']; exact hLj) (by rw [← hk]; exact hs)
     have hLj : L.getD j false = true := by
      rcases hsp.2 with e | e
      ·omega
      ·exact e
     have hk1 := F.keep (i := j + 1) (k := i - (j + 1)) (t := t) (by omega) (fun k o2 a1 a2 hk hk2 => by have := uniq k o2 hk hk2; omega)
     have hk2 := F.keep (i := j + 1) (k := ops.size - (j + 1)) (t := t) (by omega) (fun k o2 a1 a2 hk hk2 => by have := uniq k o2 hk hk2; omega)
     rw [show j + 1 + (i - (j + 1)) = i by omega] at hk1
     rw [show j + 1 + (ops.size - (j + 1)) = ops.size by omega] at hk2
     exact J.done j o' t sv hj hdst hLj (by rw [hk2, ← hk1]; exact hs)
    ·have hk := F.keep (i := 0) (k := i) (t := t) (by omega) (fun j o' _ _ hj hdst => h ⟨j, o', hj, hdst⟩)
     simp only [Nat.zero_add] at hk
     exact J.todo t sv (fun j o' hj hdst => absurd ⟨j, o', hj, hdst⟩ h) (by rw [← hk]; exact hs)
   obtain ⟨b, hw, hno, hyes⟩ := F.one i o ho
   have hwant : Region.wanted o (yielded ops a.tmps) = b := by
    unfold wantS at hw
    unfold Region.wanted
    split at hw
    ·rename_i hg; simp at hw; simp [hg, hw]
    ·rename_i j want hg
     simp only [hg]
     split at hw
     ·simp at hw
     ·rename_i d hdj
      have hdl : d ∈ Oper.looksAt ops o := by unfold Oper.looksAt; rw [hg]; simp [hdj]
      unfold yielded
      simp only [hdj, Option.bind_some]
      split at hw
      ·rename_i c hT
       obtain ⟨v, hv, hr⟩ := slots d hdl _ hT
       have e : v = .bool c := hr.1
       simp at hw
       simp [hv, e, ← hw]
      ·rename_i hT
       obtain ⟨v, hv, vs, e, hr⟩ := slots d hdl _ hT
       simp at hw
       simp [hv, e, ← hw]
      ·simp at hw
   have downL : ∀ k o, ops[k]? = some o → L.getD k false = true → ∀ e ∈ o.after, Region.binds .any e = true → L.getD e.on false = true := J.down
   have downI : ∀ k o, ops[k]? = some o → (k = i ∨ L.getD k false = true) → ∀ e ∈ o.after, Region.binds .any e = true → (e.on = i ∨ L.getD e.on false = true) := fun k o2 hk hD e he hb => by
    rcases hD with rfl | hD
    ·rw [ho] at hk; cases hk; exact .inr (hpre e he hb)
    ·exact .inr (J.down k o2 hk hD e he hb)
   have stLt : ∀ s n, StoreAt ops acc s n → s < ops.size := fun s n ⟨o, h, _⟩ => (Array.getElem?_eq_some_iff.1 h).1
   have later : ∀ n s, acc i = some n → StoreAt ops acc s n → i < s → L.getD s false = false := fun n s ha hs hlt' => by
    cases hq : L.getD s false with
    | false => rfl
    | true =>
     have hD := closed (D := fun k => L.getD k false = true) downL rfl hq ((hst s i n hs hlt ha).1 hlt')
     rw [h1] at hD
     exact Bool.noConfusion hD
   have earlier : ∀ n s, acc i = some n → StoreAt ops acc s n → s < i → L.getD s false = true := fun n s ha hs hlt' => by
    rcases closed (D := fun k => k = i ∨ L.getD k false = true) downI rfl (.inl rfl) ((hst s i n hs hlt ha).2 hlt') with h | h
    ·omega
    ·exact h
   obtain ⟨v, hv1, hv2, hv3, hv4⟩ := J.mem
   have iAcc : ∀ n, acc i = some n → i ≤ v n ∧ NoSt ops acc n (i + 1) (v n) := by
    intro n ha
    have hle : i ≤ v n := by
     rcases Nat.lt_or_ge (v n) i with hlt' | hge
     ·obtain ⟨hs, hL⟩ := hv2 n (by omega)
      rw [earlier n _ ha hs hlt'] at hL
      exact Bool.noConfusion hL
     ·exact hge
    refine ⟨hle, fun s hs1 hs2 hs => ?_⟩
    have := later n s ha hs (by omega)
    rw [hv3 n s hs2 hs] at this
    exact Bool.noConfusion this
   have notSt : ∀ n, isSt o = false → v n ≠ i := fun n hs h => by
    obtain ⟨⟨o', ho', hs', _⟩, _⟩ := hv2 n (by omega)
    rw [h, ho] at ho'
    cases ho'
    rw [hs] at hs'
    exact Bool.noConfusion hs'
   have noAcc : acc i = none → ∀ n, v n ≠ i := fun hs n h => by
    obtain ⟨⟨o', ho', _, ha⟩, _⟩ := hv2 n (by omega)
    rw [h, hs] at ha
    cases ha
   have sameV : (∀ n, v n ≠ i) → ∀ {ρ' : Rho} {w' : World}, (∀ n b, find (st (v n)).H n = some b → BRel B ρ' w' n b) → Mem B ops acc st (L.setIfInBounds i true) ρ' w' := by
    intro hne ρ' w' hm'
    refine ⟨v, hv1, fun n hn => ?_, fun n j hj hs => ?_, hm'⟩
    ·obtain ⟨q1, q2⟩ := hv2 n hn
     exact ⟨q1, by rw [getD_set hiL, if_neg (hne n)]; exact q2⟩
    ·rw [getD_set hiL]
     split
     ·rfl
     ·exact hv3 n j hj hs
   have hBw : B.base ≤ w.heap.size := Nat.le_trans hB J.below.size
   have qkeep : (∀ b, (st i).nx < (st (i + 1)).nx → find (st (i + 1)).H (st i).nx = some b → b.arr = none) → ∀ n b, Qx ops st (L.setIfInBounds i true) n b → Qx ops st L n b := by
    rintro hb n b (h | ⟨j, hj, hL, rfl, hlt', hf, ha⟩)
    ·exact .inl h
    ·by_cases e : j = i
     ·subst e
      exact absurd (hb b hlt' hf) ha
     ·rw [getD_set hiL, if_neg e] at hL
      exact .inr ⟨j, hj, hL, rfl, hlt', hf, ha⟩
   unfold wpOp
   simp only [ho, hwant]
   cases b with
   | false =>
    simp only [Bool.false_eq_true, if_false]
    obtain ⟨hno, hna⟩ := hno rfl
    have hT : (st (i + 1)).T = putT (st i).T o.dst undefS := by rw [hno]
    exact ih _ ρ _ w (J.next F hd ho hpre hT undef_rel (Ext.refl ρ) J.nam (sameV (noAcc hna) hv4) J.below (fun m hm _ => hm) (J.xr.mono (qkeep fun b hlt' => by rw [hno] at hlt'; exact absurd hlt' (Nat.lt_irrefl _)) fun _ X => X) J.off2 (fun hlt' => by rw [hno] at hlt'; exact absurd hlt' (Nat.lt_irrefl _)) (fun m hm _ => hm)) hcnt
   | true =>
    simp only [if_true]
    obtain ⟨hacc, v', hT, hH, hstep⟩ := hyes rfl
    have hops : ∀ x ∈ o.op.operands, ∀ sv, lookT (st i).T x = some sv → VRel ρ sv (a.eval x) := by
     intro x hx sv hl
     cases x with
     | tmp t =>
      simp only [lookT] at hl
      obtain ⟨v, hv, hr⟩ := slots t (by unfold Oper.looksAt; exact List.mem_append_left _ (List.mem_filterMap.2 ⟨.tmp t, by simpa using hx, rfl⟩)) sv hl
      have e : a.eval (.tmp t) = v := getD_of hv
      rw [e]
      exact hr
     | const c => exact ofConst_rel hl
     | global g => simp [lookT] at hl
     | func f => simp [lookT] at hl; subst hl; exact ⟨[], trivial, rfl⟩
    have hblk : ∀ n b, accOf (st i).H (lookT (st i).T) (st i).nx o = some n → find (st i).H n = some b → BRel B ρ w n b := by
     intro n b ha hf
     rw [← hacc] at ha
     obtain ⟨hle, hns⟩ := iAcc n ha
     refine hv4 n b ?_
     refine F.heap h0 hle (hv1 n) (fun s hs1 hs2 hs => ?_) hf
     by_cases e : s = i
     ·subst e
      have := hv3 n s hs2 hs
      rw [h1] at this
      exact Bool.noConfusion this
     ·exact hns s (by omega) hs2 hs
    have hla : ∀ n b, find (st i).H n = some b → b.arr ≠ none → (∃ A, ρ.a n = some A) → XRel B ρ [(n, b)] w := by
     intro n b hf hba ⟨A0, hA0⟩
     have one : ∀ {m c}, find [(n, b)] m = some c → m = n ∧ c = b := fun {m c} h => by
      simp only [find] at h
      split at h
      ·rename_i e; simp at h; exact ⟨(beq_len e).symm, h.symm⟩
      ·simp at h
     obtain ⟨H', hq, X⟩ := J.xr
     obtain ⟨b0, q1, q2, q3, q4⟩ : ∃ b0, find H' n = some b0 ∧ b.arr = b0.arr ∧ b.own = b0.own ∧ b.elem = b0.elem := by
      rcases Nat.lt_or_ge n (st 0).nx with hlt' | hge
      ·obtain ⟨b0, q1, q2⟩ := (F.back0 h0 (by omega) hf).1 hlt'
       exact ⟨b0, hq n b0 (.inl q1), q2⟩
      ·obtain ⟨j, b1, hj, k1, k2, k3, k4, k5⟩ := (F.back0 h0 (by omega) hf).2 hge
       have hLj : L.getD j false = true := by
        cases hq : L.getD j false with
        | true => rfl
        | false =>
         have := J.fra j (by omega) hq k2
         rw [k1, hA0] at this
         cases this
       exact ⟨b1, hq n b1 (.inr ⟨j, by omega, hLj, k1, k2, k3, by rw [← k4]; exact hba⟩), k4, k5⟩
     refine ⟨X.mem, fun m c x hm => ?_, fun m c κs y A hm => ?_, fun m c A g hm => ?_, fun m c hm => ?_, fun m m' c c' A A' g hm hm' _ _ _ _ _ _ => ?_⟩
     ·obtain ⟨rfl, rfl⟩ := one hm; exact X.off m b0 x q1
     ·obtain ⟨rfl, rfl⟩ := one hm; rw [q2, q4]; exact X.arr m b0 κs y A q1
     ·obtain ⟨rfl, rfl⟩ := one hm; rw [q2, q3]; exact X.offa m b0 A g q1
     ·obtain ⟨rfl, rfl⟩ := one hm; rw [q2]; exact X.has m b0 q1
     ·rw [(one hm).1, (one hm').1]
    refine .inl (hstep hops J.xr.mem J.nam hblk hla J.below (fun hs x w' hv hb' hH' hnx => ?_) (fun hs x cs t vs ha hH' hnx hcs hv => ?_) (fun hs x w' n ha hv hbn hoth0 hsz hb' hnx => ?_) fun hs x w' A e κs c hH' hnx hA hb' hg hv => ?_)
    ·exact ih _ ρ _ w' (J.next F hd ho hpre hT hv (Ext.refl ρ) (J.nam.below hb'.size) (sameV (fun n => notSt n hs) fun n b hf => (hv4 n b hf).below J.nam hb') (J.below.trans (.of hb' hBw)) (fun m hm _ => hm) (J.xr.mono (qkeep fun b hlt' => by omega) fun _ X => X.below hb') J.off2 (fun hlt' => by omega) (fun m hm _ => hm)) hcnt
    ·have hn : ρ (st i).nx = none := J.fr i hlt h1 (by omega)
     rw [← hacc] at ha
     obtain ⟨hle, hns⟩ := iAcc _ ha
     have hne := notSt (st i).nx hs
     have hfind : find (st (i + 1)).H (st i).nx = some { cells := cs, elem := t, own := true } := by
      rw [hH']
      simp only [find]
      rw [if_pos (Nat.beq_refl _)]
     have hfind' := F.heap h0 (n := (st i).nx) (i := i + 1) (k := v (st i).nx) (by omega) (hv1 _) hns hfind
     refine ih _ (newRho ρ (st i).nx w.heap.size) _ _ (J.next F hd ho hpre hT (hv hn) (newRho_ext hn) (J.nam.alloc _) (sameV (fun n => notSt n hs) fun n b hf => ?_) (J.below.alloc hBw _) (fun m hm hne => ?_) (J.xr.mono (qkeep fun b _ hfb => ?_) fun _ X => X.alloc0 hn _) (fun n x hn' hx' a ha => ?_) (fun _ _ => ⟨w.heap.size, by simp [newRho]⟩) (fun m hm _ => hm)) hcnt
     ·by_cases e : n = (st i).nx
      ·subst e
       rw [hfind'] at hf
       cases hf
       exact BRel.alloc_new hn hBw hcs
      ·exact (hv4 n b hf).alloc_old J.nam hn e _
     ·simp only [newRho]
      rw [if_neg (hne (by omega))]
      exact hm
     ·rw [hfind] at hfb
      cases hfb
      rfl
     ·simp only [newRho] at hx'
      split at hx'
      ·simp at hx'
       subst hx'
       show ρ.m a = none
       cases hq : ρ.m a with
       | none => rfl
       | some v => have := cellOf_lt (J.xr.mem a v hq); omega
      ·exact J.off2 n x hn' hx' a ha
    ·obtain ⟨z, hz, hoz⟩ := hoth0
     have hoth : ∀ m y, m ≠ n → ρ m = some y → w'.heap[y]? = w.heap[y]? := fun m y hm hy => hoz y fun e => hm (J.nam.inj m n z (by rw [← e]; exact hy) hz)
     have hoffz : ∀ a : Addr, a.block = z → ρ.m a = none := fun a haz => by
      rcases Nat.lt_or_ge n (st 0).nx with hlt' | hge
      ·have hfi : ∃ b, find (st i).H n = some b := by
        rcases hH with ⟨hs2, _⟩ | ⟨hs2, _⟩ | ⟨_, _, m', cs', ha', hb0, _⟩
        ·rw [hs] at hs2; exact Bool.noConfusion hs2
        ·rw [hs] at hs2; exact Bool.noConfusion hs2
        ·rw [ha] at ha'
         cases ha'
         exact hb0
       obtain ⟨b, hf⟩ := hfi
       obtain ⟨b0, h1', _⟩ := (F.back0 h0 (by omega) hf).1 hlt'
       obtain ⟨H', hq, X⟩ := J.xr
       exact X.off n b0 z (hq n b0 (.inl h1')) hz a haz
      ·exact J.off2 n z hge hz a haz
     rw [← hacc] at ha
     obtain ⟨hle, hns⟩ := iAcc n ha
     have hvi : v n = i := by
      rcases Nat.lt_or_ge i (v n) with hlt' | hge
      ·have := hv3 n i hlt' ⟨o, ho, hs, ha⟩
       rw [h1] at this
       exact Bool.noConfusion this
      ·omega
     have least : ∀ k, ∃ e', i + 1 ≤ e' ∧ e' ≤ i + 1 + k ∧ NoSt ops acc n (i + 1) e' ∧ (e' < i + 1 + k → StoreAt ops acc e' n) := by
      intro k
      induction k with
      | zero => exact ⟨i + 1, by omega, by omega, fun j h1 h2 => by omega, fun h => by omega⟩
      | succ k ihk =>
       obtain ⟨e', a1, a2, a3, a4⟩ := ihk
       rcases Nat.lt_or_ge e' (i + 1 + k) with hlt' | hge
       ·exact ⟨e', a1, by omega, a3, fun _ => a4 hlt'⟩
       ·classical
        by_cases hse : StoreAt ops acc e' n
        ·exact ⟨e', a1, by omega, a3, fun _ => hse⟩
        ·exact ⟨e' + 1, by omega, by omega, fun j h1 h2 hj => by
          rcases Nat.lt_or_ge j e' with h | h
          ·exact a3 j h1 h hj
          ·rw [show j = e' by omega] at hj; exact hse hj, fun h => by omega⟩
     obtain ⟨e', a1, a2, a3, a4⟩ := least (ops.size - (i + 1))
     rw [show i + 1 + (ops.size - (i + 1)) = ops.size by omega] at a2 a4
     have hvm : ∀ m, m ≠ n → v m ≠ i := fun m hm hvi' => by
      obtain ⟨⟨_, _, _, ha'⟩, _⟩ := hv2 m (by omega)
      rw [hvi', ha] at ha'
      cases ha'
      exact hm rfl
     refine ih _ ρ _ w' (J.next F hd ho hpre hT hv (Ext.refl ρ) (J.nam.below (by omega)) ?_ (J.below.trans hb') (fun m hm _ => hm) (J.xr.mono (qkeep fun b hlt' => by omega) fun _ X => X.store2 hz hoffz hoz) J.off2 (fun hlt' => by omega) (fun m hm _ => hm)) hcnt
     obtain ⟨v', hvn, hvo⟩ : ∃ v' : Nat → Nat, v' n = e' ∧ ∀ m, m ≠ n → v' m = v m := ⟨fun m => if m = n then e' else v m, by simp, fun m hm => by simp [hm]⟩
     refine ⟨v', fun m => ?_, fun m hm => ?_, fun m j hj hsj => ?_, fun m b hf => ?_⟩
     ·by_cases e : m = n
      ·rw [e, hvn]; exact a2
      ·rw [hvo m e]; exact hv1 m
     ·by_cases e : m = n
      ·subst e
       rw [hvn] at hm ⊢
       have hse := a4 hm
       refine ⟨hse, ?_⟩
       rw [getD_set hiL, if_neg (by omega)]
       exact later m e' ha hse (by omega)
      ·rw [hvo m e] at hm ⊢
       obtain ⟨q1, q2⟩ := hv2 m hm
       exact ⟨q1, by rw [getD_set hiL, if_neg (hvm m e)]; exact q2⟩
     ·rw [getD_set hiL]
      split
      ·rfl
      ·rename_i hji
       by_cases e : m = n
       ·subst e
        rw [hvn] at hj
        rcases Nat.lt_or_ge j i with h | h
        ·exact hv3 m j (by omega) hsj
        ·exact absurd hsj (a3 j (by omega) hj)
       ·rw [hvo m e] at hj
        exact hv3 m j hj hsj
     ·by_cases e : m = n
      ·subst e
       rw [hvn] at hf
       intro y hy
       have hlt2 : m < (st (i + 1)).nx := by
        rw [hnx]
        rcases hH with ⟨hs2, _⟩ | ⟨hs2, _⟩ | ⟨_, _, m', cs', ha', ⟨b0, hb0⟩, _⟩
        ·rw [hs] at hs2; exact Bool.noConfusion hs2
        ·rw [hs] at hs2; exact Bool.noConfusion hs2
        ·rw [← hacc, ha] at ha'
         cases ha'
         exact F.names h0 (i := i) (by omega) m b0 hb0
       exact hbn b (F.back (n := m) a1 a2 a3 hlt2 hf) y hy
      ·rw [hvo m e] at hf
       intro y hy
       obtain ⟨q1, vs, q2, q3⟩ := hv4 m b hf y hy
       exact ⟨q1, vs, by rw [hoth m y e hy]; exact q2, q3⟩
    ·
     have hn : ρ (st i).nx = none := J.fr i hlt h1 (by omega)
     have hna : ρ.a (st i).nx = none := J.fra i hlt h1 (by omega)
     have hfind : find (st (i + 1)).H (st i).nx = some { cells := [], elem := e, own := true, arr := some (κs, c) } := by
      rw [hH']
      simp only [find]
      rw [if_pos (Nat.beq_refl _)]
     refine ih _ (newArr ρ (st i).nx A) _ w' (J.next F hd ho hpre hT hv (newArr_ext hna) ⟨(J.nam.below hb'.size).lt, (J.nam.below hb'.size).inj⟩ (sameV (fun n => notSt n hs) fun n b hf y hy => ?_) (J.below.trans (.of hb' hBw)) (fun m hm _ => hm) ?_ J.off2 (fun hlt' hbk => ?_) (fun m hm hne => ?_)) hcnt
     ·obtain ⟨q1, vs, q2, q3⟩ := (hv4 n b hf).below J.nam hb' y hy
      exact ⟨q1, vs, q2, q3.mono (newArr_ext hna)⟩
     ·obtain ⟨H', hq, X⟩ := J.xr
      refine ⟨_, fun n b hb => ?_, X.made hBw J.nam hn hna hA hb' hg⟩
      have ne : n ≠ (st i).nx → find H' n = some b → find (((st i).nx, { cells := [], elem := e, own := true, arr := some (κs, c) }) :: H') n = some b := fun hne h => by
       simp only [find]
       rw [if_neg (fun q => hne (beq_len q).symm)]
       exact h
      rcases hb with h | ⟨j, hj, hL, rfl, hlt', hf, ha⟩
      ·have := h0 n b h
       have := F.nx_mono (i := 0) (k := i) (by omega) (by omega)
       exact ne (by omega) (hq n b (.inl h))
      ·by_cases e' : j = i
       ·subst e'
        rw [hfind] at hf
        cases hf
        simp only [find]
        rw [if_pos (Nat.beq_refl _)]
       ·rw [getD_set hiL, if_neg e'] at hL
        refine ne (fun q => ?_) (hq _ b (.inr ⟨j, hj, hL, rfl, hlt', hf, ha⟩))
        rcases Nat.lt_or_ge j i with h | h
        ·have := F.nx_mono (i := j + 1) (k := i) (by omega) (by omega); omega
        ·have := F.nx_mono (i := i + 1) (k := j) (by omega) (by omega); omega
     ·have := hbk _ hfind
      cases this
     ·simp only [newArr]
      rw [if_neg (hne (by omega))]
      exact hm
end
theorem draw_any {P : Program} {I : World → Prop} {rec : Rec} {B : Foot} {w0 : World} (hB : B.base ≤ w0.heap.size) (hI : ∀ w, BelowF B w0 w → I w) {M : Env} (hM : MOK P I M) {S : List Sum} (hS : ∀ c ∈ S, SumOK P I c) {ops : Array Oper} (hok : drawOK P ops = true) {s s' : St} {as : List (Option Nat)}
 (h : (evD M rec P S ops 0 ops.toList s []).den = some (s', as)) (hacc : accAll (masks [] ops.toList) as 0 ops.toList as = true)
 {ρ : Rho} {a : Act} {w : World} (hs : StRel B w0 ρ s a w) {Q : Exit → Act → World → Prop} (hQ : ∀ ρ' a' w', Ext ρ ρ' → StRel B w0 ρ' s' a' w' → Q .normal a' w') : wpAny P .any ops Q ops.size (Array.replicate ops.size false) a w.drew := by
 simp only [drawOK, Bool.and_eq_true] at hok
 obtain ⟨⟨-, hd⟩, hh⟩ := hok
 obtain ⟨st, acc, bs, e0, en, eas, elen, ebs, ht⟩ := trace_of (P := P) (rec := rec) (S := S) ops.toList 0 h
 simp only [Nat.zero_add, Array.length_toList] at en elen ebs
 rw [List.nil_append] at eas
 subst eas
 have F : Facts B w0 P ops st acc := by
  refine ⟨fun i o ho => ?_⟩
  have hoL : ops.toList[i]? = some o := by simpa using ho
  obtain ⟨b, h1, h2, h3⟩ := ht.step i o hoL
  simp only [Nat.zero_add] at h1 h2 h3
  refine ⟨b, h1, h2, fun hb => ?_⟩
  obtain ⟨hal, q1, q2⟩ := h3 hb
  exact ⟨q2, oneStep hI hM hS hal q1⟩
 have hst : ∀ s j n, StoreAt ops acc s n → j < ops.size → acc j = some n → (j < s → ((masks [] ops.toList).getD s 0).testBit j = true) ∧ (s < j → ((masks [] ops.toList).getD j 0).testBit s = true) := by
  intro s j n ⟨o, ho, hso, hn⟩ hj hjn
  have hs' : s < ops.size := (Array.getElem?_eq_some_iff.1 ho).1
  have hrow := accAll_spec hacc s o n (by simpa using ho) (by rw [ebs s hs', hn]) hso
  rw [Nat.zero_add] at hrow
  have := accRow_spec hrow j (by rw [ebs j hj, hjn])
  simpa using this
 subst e0 en
 refine Jn.any hB F hd hh hst hs.names (ρ0 := ρ) hQ ops.size _ ρ a _ ⟨Ext.refl ρ, by simp, fun k o hk hL => ?_, ?_, fun j o t sv hj hdst hL => ?_, fun t sv hn ht => ?_, ⟨hs.mem.lt, hs.mem.inj⟩, ?_, ⟨hs.below.os, hs.below.tape, hs.below.output, hs.below.size, hs.below.block⟩, hs.defers, fun j hj hL hlt => ?_, fun m hm => ?_, ⟨(st 0).H, fun n b hq => ?_, hs.ext.drew⟩, fun n x hn hx => ?_, fun j hj hL => ?_, fun j hj hL hlt => ?_, fun m hm => ?_⟩ (cnt_le _ _)
 ·simp [Array.getD] at hL
 ·have := hs.tmps.length; simpa using this.symm
 ·simp [Array.getD] at hL
 ·obtain ⟨v, hv, hr⟩ := hs.tmps.get ht
  exact ⟨v, by simpa using hv, hr⟩
 ·have least : ∀ m n, ∃ e', e' ≤ n ∧ NoSt ops acc m 0 e' ∧ (e' < n → StoreAt ops acc e' m) := by
   intro m n
   induction n with
   | zero => exact ⟨0, Nat.le_refl _, fun j h1 h2 => by omega, fun h => by omega⟩
   | succ n ihn =>
    obtain ⟨e', a1, a3, a4⟩ := ihn
    rcases Nat.lt_or_ge e' n with hlt' | hge
    ·exact ⟨e', by omega, a3, fun _ => a4 hlt'⟩
    ·classical
     by_cases hse : StoreAt ops acc e' m
     ·exact ⟨e', by omega, a3, fun _ => hse⟩
     ·exact ⟨e' + 1, by omega, fun j h1 h2 hj => by
       rcases Nat.lt_or_ge j e' with h | h
       ·exact a3 j h1 h hj
       ·rw [show j = e' by omega] at hj; exact hse hj, fun h => by omega⟩
  refine ⟨fun m => (least m ops.size).choose, fun m => (least m ops.size).choose_spec.1, fun m hm => ⟨(least m ops.size).choose_spec.2.2 hm, by simp [Array.getD]⟩, fun m j hj hsj => absurd hsj ((least m ops.size).choose_spec.2.1 j (by omega) hj), fun m b hb x hx => ?_⟩
  have hlt : m < (st 0).nx := by
   rcases Nat.lt_or_ge m (st 0).nx with h | h
   ·exact h
   ·rw [hs.fresh m h] at hx; cases hx
  exact hs.mem.blk m b x (F.back (n := m) (Nat.zero_le _) (least m ops.size).choose_spec.1 (least m ops.size).choose_spec.2.1 hlt hb) hx
 ·refine hs.fresh _ ?_
  have := F.nx_mono (i := 0) (k := j) (by omega) (by omega)
  omega
 ·refine hs.fresh _ ?_
  have := F.nx_mono (i := 0) (k := ops.size) (by omega) (Nat.le_refl _)
  omega
 ·rcases hq with h | ⟨j, _, hL, _⟩
  ·exact h
  ·simp [Array.getD] at hL
 ·rw [hs.fresh n hn] at hx; cases hx
 ·simp [Array.getD] at hL
 ·refine hs.fra _ ?_
  have := F.nx_mono (i := 0) (k := j) (by omega) (by omega)
  omega
 ·refine hs.fra _ ?_
  have := F.nx_mono (i := 0) (k := ops.size) (by omega) (Nat.le_refl _)
  omega
end Go.Proofs.YtdioaiepkhepaaaGreatDoor
namespace Go.Proofs.YtdioaiepkhepaaaGreatDoor
open Go.RowKit
theorem find_mem : ∀ {H : List (Nat × Blk)} {n : Nat} {b : Blk}, find H n = some b → (n, b) ∈ H
 | [], _, _, h => by simp [find] at h
 | (k, x) :: H, n, b, h => by
  rcases find_cons h with ⟨rfl, rfl⟩ | ⟨_, h2⟩
  ·exact List.mem_cons_self
  ·exact List.mem_cons_of_mem _ (find_mem h2)
theorem find_part {l : List Nat} {H : List (Nat × Blk)} {q : Bool} (n : Nat) : find (partH l H q) n = if (inRn l H n == q) = true then find H n else none := find_filter (fun n => inRn l H n == q) H n
theorem maskT_length (lk : List Nat) : ∀ (k : Nat) (T : List SV), (maskT lk k T).length = T.length
 | _, [] => rfl
 | k, _ :: T => by simp [maskT, maskT_length lk (k + 1) T]
theorem maskT_get (lk : List Nat) : ∀ (k : Nat) (T : List SV) (t : Nat), (maskT lk k T)[t]? = (T[t]?).map fun v => if inN lk (k + t) then v else .any
 | _, [], t => by simp [maskT]
 | k, v :: T, 0 => by simp [maskT]
 | k, v :: T, t + 1 => by
  simp only [maskT, List.getElem?_cons_succ]
  rw [maskT_get lk (k + 1) T t, show k + 1 + t = k + (t + 1) by omega]
theorem inN_mem {l : List Nat} {n : Nat} (h : inN l n = true) : n ∈ l := by
 unfold inN at h
 obtain ⟨m, hm, e⟩ := List.any_eq_true.1 h
 rw [beq_len e]
 exact hm
theorem vsRel_of {ρ : Rho} : ∀ {T : List SV} {vs : List Value}, T.length = vs.length → (∀ (t : Nat) (sv : SV), T[t]? = some sv → ∃ v, vs[t]? = some v ∧ VRel ρ sv v) → VsRel ρ T vs
 | [], [], _, _ => trivial
 | [], _ :: _, h, _ => by simp at h
 | _ :: _, [], h, _ => by simp at h
 | s :: T, v :: vs, hl, hk => by
  obtain ⟨u, hu, hr⟩ := hk 0 s rfl
  simp at hu
  subst hu
  exact ⟨hr, vsRel_of (by simpa using hl) fun t sv ht => by simpa using hk (t + 1) sv (by simpa using ht)⟩
theorem chainF_spec {ms : List Nat} : ∀ {l : List Oper} {i : Nat} {hs : List Nat} {fl : List Bool}, chainF ms i hs l = some fl → ∀ k o, l[k]? = some o → (fl.getD k false = true → isLight o = false) ∧ (isLight o = false → fl.getD k false = false → (∀ j ∈ hs, (ms.getD (i + k) 0).testBit j = true) ∧ ∀ j o', j < k → l[j]? = some o' → isLight o' = false → (ms.getD (i + k) 0).testBit (i + j) = true)
 | [], _, _, _, _, k, o, h => by simp at h
 | y :: l, i, hs, fl, h, k, o, hk => by
  simp only [chainF] at h
  split at h
  ·rename_i hy
   simp only [Option.map_eq_some_iff] at h
   obtain ⟨f2, h1, rfl⟩ := h
   cases k with
   | zero => simp at hk; subst hk; simp [hy]
   | succ k =>
    obtain ⟨q0, q1⟩ := chainF_spec (l := l) h1 k o (by simpa using hk)
    refine ⟨by simpa using q0, fun ho hf => ?_⟩
    obtain ⟨q1, q2⟩ := q1 ho (by simpa using hf)
    rw [show i + 1 + k = i + (k + 1) by omega] at q1 q2
    refine ⟨q1, fun j o' hj hjo hl => ?_⟩
    cases j with
    | zero => simp at hjo; subst hjo; rw [hy] at hl; cases hl
    | succ j =>
     have := q2 j o' (by omega) (by simpa using hjo) hl
     rwa [show i + 1 + j = i + (j + 1) by omega] at this
  ·rename_i hy
   have hy : isLight y = false := by simpa using hy
   have step : ∀ {f2 : List Bool}, chainF ms (i + 1) (i :: hs) l = some f2 → ∀ k o, l[k]? = some o → (f2.getD k false = true → isLight o = false) ∧ (isLight o = false → f2.getD k false = false → (∀ j ∈ hs, (ms.getD (i + (k + 1)) 0).testBit j = true) ∧ ∀ j o', j < k + 1 → (y :: l)[j]? = some o' → isLight o' = false → (ms.getD (i + (k + 1)) 0).testBit (i + j) = true) := fun h2 k o hk => by
    obtain ⟨q0, q1⟩ := chainF_spec h2 k o hk
    refine ⟨q0, fun ho hf => ?_⟩
    obtain ⟨q1, q2⟩ := q1 ho hf
    rw [show i + 1 + k = i + (k + 1) by omega] at q1 q2
    refine ⟨fun j hj => q1 j (List.mem_cons_of_mem _ hj), fun j o' hj hjo hl => ?_⟩
    cases j with
    | zero => exact q1 i List.mem_cons_self
    | succ j =>
     have := q2 j o' (by omega) (by simpa using hjo) hl
     rwa [show i + 1 + j = i + (j + 1) by omega] at this
   split at h
   ·rename_i hm
    simp only [Option.map_eq_some_iff] at h
    obtain ⟨f2, h1, rfl⟩ := h
    cases k with
    | zero => simp at hk; subst hk; exact ⟨fun _ => hy, fun _ _ => ⟨fun j hj => List.all_eq_true.1 hm j hj, fun j o' hj => by omega⟩⟩
    | succ k => exact step h1 k o (by simpa using hk)
   ·split at h
    ·simp only [Option.map_eq_some_iff] at h
     obtain ⟨f2, h1, rfl⟩ := h
     cases k with
     | zero => simp at hk; subst hk; exact ⟨fun _ => hy, fun _ hf => by simp at hf⟩
     | succ k => exact step h1 k o (by simpa using hk)
    ·cases h
theorem headD_getD (fl : List Bool) : fl.headD false = fl.getD 0 false := by cases fl <;> rfl
theorem tail_getD (fl : List Bool) (k : Nat) : fl.tail.getD k false = fl.getD (k + 1) false := by cases fl <;> simp
section
variable {P : Program} {rec : Rec} {M : Env} {S : List Sum} {ops : Array Oper} {R : List (Nat × Blk)} {base : Nat} {late : Nat → Bool}
def Froz (R fr : List (Nat × Blk)) : Prop := ∀ n b, find fr n = some b → ∃ c, find R n = some c ∧ b = { c with own := false }
theorem froz_frz (R : List (Nat × Blk)) : Froz R (frz R) := by
 intro n b h
 induction R with
 | nil => simp [frz, find] at h
 | cons p R ih =>
  obtain ⟨k, c⟩ := p
  simp only [frz, List.map_cons] at h
  rcases find_cons h with ⟨rfl, rfl⟩ | ⟨hne, h2⟩
  ·exact ⟨c, by simp only [find]; rw [if_pos (Nat.beq_refl _)], rfl⟩
  ·obtain ⟨c', q1, q2⟩ := ih h2
   exact ⟨c', by simp only [find]; rw [if_neg (fun e => hne (beq_len e).symm)]; exact q1, q2⟩
theorem froz_nil (R : List (Nat × Blk)) : Froz R [] := fun n b h => by simp [find] at h
def FactC (M : Env) (rec : Rec) (P : Program) (S : List Sum) (ops : Array Oper) (R : List (Nat × Blk)) (base : Nat) (late : Nat → Bool) (i : Nat) (o : Oper) (s s' : St) : Prop :=
 ∃ b, wantS ops s.T o = some b ∧ (b = false → late i = false ∧ s' = { s with T := putT s.T o.dst undefS }) ∧
  (b = true → late i = true → ∃ r v bl, (pureStep P [] (lookT (maskT (Oper.looksAt ops o) 0 s.T)) o.op).den = some r ∧ lateR (base + i) r = some (v, bl) ∧ s' = { T := putT s.T o.dst v, H := (base + i, bl) :: s.H, nx := s.nx, br := s.br }) ∧
  (b = true → late i = false → isLight o = true → ∃ v0 v, (opStep P R (lookT (maskT (Oper.looksAt ops o) 0 s.T)) o.op).den = some (.val v0) ∧ (Go.Proofs.YtdioaiepkhepaaaGreatDoor.part (used ops i) v0).den = some v ∧ s' = { s with T := putT s.T o.dst v }) ∧
  (b = true → late i = false → isLight o = false → ∃ s1 fr, Froz R fr ∧ (opS M rec P S (used ops i) o { s with T := maskT (Oper.looksAt ops o) 0 s.T, H := fr ++ s.H }).den = some s1 ∧ okNs (base + i) (base + ops.size) (namesV (slotOf s1.T o.dst)) = true ∧ okH (base + i) (base + ops.size) (dropR R s1.H) = true ∧ base + ops.size ≤ s1.nx ∧ s' = { s1 with T := putT s.T o.dst (slotOf s1.T o.dst), H := dropR R s1.H })
theorem traceC_of : ∀ (l : List Oper) (i : Nat) {fl : List Bool} {s s' : St}, (∀ k, late (i + k) = fl.getD k false) → (evC M rec P S ops R base i l fl s).den = some s' → ∃ st : Nat → St, st i = s ∧ st (i + l.length) = s' ∧ ∀ k o, l[k]? = some o → FactC M rec P S ops R base late (i + k) o (st (i + k)) (st (i + k + 1))
 | [], i, fl, s, s', _, h => by
  simp [evC, Tree.den] at h
  subst h
  exact ⟨fun _ => s, rfl, rfl, fun k o hk => by simp at hk⟩
 | o :: l, i, fl, s, s', hfl, h => by
  have h0 : late i = fl.getD 0 false := hfl 0
  have hfl' : ∀ k, late (i + 1 + k) = fl.tail.getD k false := fun k => by rw [tail_getD, ← hfl (k + 1), show i + 1 + k = i + (k + 1) by omega]
  have put : ∀ {s1 : St}, FactC M rec P S ops R base late i o s s1 → (evC M rec P S ops R base (i + 1) l fl.tail s1).den = some s' → ∃ st : Nat → St, st i = s ∧ st (i + (o :: l).length) = s' ∧ ∀ k o', (o :: l)[k]? = some o' → FactC M rec P S ops R base late (i + k) o' (st (i + k)) (st (i + k + 1)) := by
   intro s1 hf h1
   obtain ⟨st, e1, e2, ht⟩ := traceC_of l (i + 1) hfl' h1
   refine ⟨fun m => if m = i then s else st m, by simp, ?_, fun k o' hk => ?_⟩
   ·have e : i + (o :: l).length = i + 1 + l.length := by simp; omega
    simp only [e]
    rw [if_neg (show i + 1 + l.length ≠ i by omega)]
    exact e2
   ·cases k with
    | zero =>
     simp at hk
     subst hk
     simpa [e1] using hf
    | succ k =>
     have := ht k o' (by simpa using hk)
     have e : i + (k + 1) = i + 1 + k := by omega
     simp only [e]
     rw [if_neg (show i + 1 + k ≠ i by omega), if_neg (show i + 1 + k + 1 ≠ i by omega)]
     exact this
  simp only [evC, headD_getD, ← h0] at h
  split at h
  ·simp [Tree.den] at h
  ·rename_i hw
   split at h
   ·simp [Tree.den] at h
   ·rename_i hl
    have hl : late i = false := by simpa using hl
    exact put ⟨false, hw, fun _ => ⟨hl, rfl⟩, (fun h => Bool.noConfusion h), (fun h => Bool.noConfusion h), fun h => Bool.noConfusion h⟩ h
  ·rename_i hw
   split at h
   ·rename_i hl
    obtain ⟨r, h1, h2⟩ := den_bind_some h
    split at h2
    ·rename_i v bl hr
     exact put ⟨true, hw, (fun h => Bool.noConfusion h), (fun _ _ => ⟨r, v, bl, h1, hr, rfl⟩), (fun _ hf => by rw [hl] at hf; cases hf), fun _ hf => by rw [hl] at hf; cases hf⟩ h2
    ·simp [Tree.den] at h2
   ·rename_i hla
    split at h
    ·rename_i hl
     obtain ⟨r, h1, h2⟩ := den_bind_some h
     cases r with
     | val v0 =>
      simp only at h2
      obtain ⟨v, h3, h4⟩ := den_bind_some h2
      exact put ⟨true, hw, (fun h => Bool.noConfusion h), (fun _ hf => absurd hf hla), (fun _ _ _ => ⟨v0, v, h1, h3, rfl⟩), fun _ _ hf => by rw [hl] at hf; cases hf⟩ h4
     | _ => simp [Tree.den] at h2
    ·rename_i hl
     obtain ⟨s1, h1, h2⟩ := den_bind_some h
     split at h2
     ·rename_i hap
      simp only [Bool.and_eq_true] at hap
      refine put ⟨true, hw, (fun h => Bool.noConfusion h), (fun _ hf => absurd hf hla), (fun _ _ hf => absurd hf hl), fun _ _ _ => ⟨s1, _, ?_, h1, hap.1.1, hap.1.2, Nat.le_of_ble_eq_true hap.2, rfl⟩⟩ h2
      split
      ·exact froz_frz R
      ·exact froz_nil R
     ·simp [Tree.den] at h2
theorem evC_br : ∀ {l : List Oper} {i : Nat} {fl : List Bool} {s s' : St}, (∀ {u : Bool} {o : Oper} {s s' : St}, (opS M rec P S u o s).den = some s' → s'.br = s.br) → (evC M rec P S ops R base i l fl s).den = some s' → s'.br = s.br
 | [], i, fl, s, s', _, h => by simp [evC, Tree.den] at h; rw [← h]
 | o :: l, i, fl, s, s', hb, h => by
  simp only [evC] at h
  split at h
  ·simp [Tree.den] at h
  ·split at h
   ·simp [Tree.den] at h
   ·exact evC_br (s := { s with T := putT s.T o.dst undefS }) hb h
  ·split at h
   ·obtain ⟨r, h1, h2⟩ := den_bind_some h
    split at h2
    ·rename_i v bl hr
     exact evC_br (s := { T := putT s.T o.dst v, H := (base + i, bl) :: s.H, nx := s.nx, br := s.br }) hb h2
    ·simp [Tree.den] at h2
   ·split at h
    ·obtain ⟨r, h1, h2⟩ := den_bind_some h
     cases r with
     | val v0 =>
      simp only at h2
      obtain ⟨v, h3, h4⟩ := den_bind_some h2
      exact evC_br (s := { s with T := putT s.T o.dst v }) hb h4
     | _ => simp [Tree.den] at h2
    ·obtain ⟨s1, h1, h2⟩ := den_bind_some h
     split at h2
     ·rw [evC_br (s := { s1 with T := putT s.T o.dst (slotOf s1.T o.dst), H := dropR R s1.H }) hb h2]
      have q := hb h1
      exact q
     ·simp [Tree.den] at h2
end
def RRel (B : Foot) (ρ : Rho) (R : List (Nat × Blk)) (w : World) : Prop := ∀ n b, find R n = some b → b.arr = none ∧ ∃ x, ρ n = some x ∧ (b.own = true → B.has x) ∧ (∃ vs : List Value, w.heap[x]? = some (.cells vs.toArray b.elem (0, 0)) ∧ CsRel ρ b.cells vs) ∧ ∀ a : Addr, a.block = x → ρ.m a = none
section
variable {B : Foot} {w0 : World} {ρ : Rho} {H R : List (Nat × Blk)} {nx : Nat} {w : World}
theorem RRel.keep (hR : RRel B ρ R w) (h : WRel B w0 ρ H nx w) (hd : ∀ n b, find H n = some b → find R n = none) {ρ' : Rho} {w' : World} (hx : Ext ρ ρ') (hb : BelowF (footOf ρ H w) w w') : RRel B ρ' R w' := by
 intro n b hf
 obtain ⟨q1, x, q2, q3, ⟨vs, q4, q5⟩, q6⟩ := hR n b hf
 refine ⟨q1, x, hx.b _ _ q2, q3, ⟨vs, ?_, q5.mono hx⟩, fun a ha => by rw [hx.m]; exact q6 a ha⟩
 rw [hb.block x ?_]
 ·exact q4
 ·rintro (hs | ⟨m, c, hm, _, hy | ⟨hc, A, hA, hg⟩⟩)
  ·have := h.mem.lt n x q2
   simp only [footOf] at hs
   omega
  ·have := h.mem.inj n m x q2 hy
   subst this
   rw [hd n c hm] at hf
   cases hf
  ·exact (h.ext.offa m c A x hm hc hA hg).2.2 n x q2 rfl
theorem WRel.joinF (h : WRel B w0 ρ H nx w) (hR : RRel B ρ R w) {H2 : List (Nat × Blk)} (h2 : ∀ n b, find H2 n = some b → (∃ c, find R n = some c ∧ b.arr = c.arr ∧ b.cells = c.cells ∧ b.elem = c.elem ∧ (b.own = true → c.own = true)) ∨ find H n = some b) : WRel B w0 ρ H2 nx w := by
 have no : ∀ {n : Nat} {b c : Blk}, find R n = some c → b.arr = c.arr → b.arr = none := fun q e => by rw [e]; exact (hR _ _ q).1
 refine ⟨⟨h.mem.lt, h.mem.inj, fun n b x hf hx => ?_⟩, ⟨h.ext.mem, fun n b x hf hx => ?_, fun n b κs c A hf hb => ?_, fun n b A g hf hb => ?_, fun n b hf => ?_, fun n n' b b' A A' g hf hf' hb hb' => ?_⟩, h.below, h.fresh, h.fra, fun n b hf => ?_⟩
 ·rcases h2 n b hf with ⟨c, q, e1, e2, e3, e4⟩ | q
  ·obtain ⟨-, y, q2, q3, ⟨vs, q4, q5⟩, -⟩ := hR n c q
   rw [hx] at q2
   cases q2
   exact ⟨fun ho => q3 (e4 ho), vs, by rw [e3]; exact q4, by rw [e2]; exact q5⟩
  ·exact h.mem.blk n b x q hx
 ·rcases h2 n b hf with ⟨c, q, e1, e2, e3, e4⟩ | q
  ·obtain ⟨-, y, q2, -, -, q5⟩ := hR n c q
   rw [hx] at q2
   cases q2
   exact q5
  ·exact h.ext.off n b x q hx
 ·rcases h2 n b hf with ⟨c, q, e1, e2, e3, e4⟩ | q
  ·rw [no q e1] at hb; cases hb
  ·exact h.ext.arr n b κs c A q hb
 ·rcases h2 n b hf with ⟨c, q, e1, e2, e3, e4⟩ | q
  ·exact absurd (no q e1) hb
  ·exact h.ext.offa n b A g q hb
 ·rcases h2 n b hf with ⟨c, q, e1, e2, e3, e4⟩ | q
  ·obtain ⟨q1, y, q2, -⟩ := hR n c q
   exact ⟨fun hb => absurd (no q e1) hb, fun _ => ⟨y, q2⟩⟩
  ·exact h.ext.has n b q
 ·rcases h2 n b hf with ⟨c, q, e1, e2, e3, e4⟩ | q
  ·exact absurd (no q e1) hb
  ·rcases h2 n' b' hf' with ⟨c, q', e1, e2, e3, e4⟩ | q'
   ·exact absurd (no q' e1) hb'
   ·exact h.ext.inja n n' b b' A A' g q q' hb hb'
 ·rcases h2 n b hf with ⟨c, q, e1, e2, e3, e4⟩ | q
  ·obtain ⟨-, y, q2, -⟩ := hR n c q
   rcases Nat.lt_or_ge n nx with hlt | hge
   ·exact hlt
   ·rw [h.fresh n hge] at q2; cases q2
  ·exact h.names n b q
theorem WRel.join (h : WRel B w0 ρ H nx w) (hR : RRel B ρ R w) {H2 : List (Nat × Blk)} (h2 : ∀ n b, find H2 n = some b → find R n = some b ∨ find H n = some b) : WRel B w0 ρ H2 nx w :=
 h.joinF hR fun n b hf => (h2 n b hf).imp (fun q => ⟨b, q, rfl, rfl, rfl, id⟩) id
theorem WRel.sub {H2 : List (Nat × Blk)} (h : WRel B w0 ρ H nx w) (key : ∀ n b, find H2 n = some b → find H n = some b) : WRel B w0 ρ H2 nx w :=
 ⟨⟨h.mem.lt, h.mem.inj, fun n b x hf => h.mem.blk n b x (key n b hf)⟩, h.ext.sub key, h.below, h.fresh, h.fra, fun n b hf => h.names n b (key n b hf)⟩
theorem WRel.allocAt (h : WRel B w0 ρ H nx w) (hB : B.base ≤ w0.heap.size) {n : Nat} (hn : ρ n = none) (hna : ρ.a n = none) (hlt : n < nx) {cs : List SC} {vs : List Value} (t : TypeId) (hc : CsRel ρ cs vs) :
 WRel B w0 (newRho ρ n w.heap.size) ((n, { cells := cs, elem := t, own := true }) :: H) nx (w.alloc (.cells vs.toArray t)) := by
 have hBw : B.base ≤ w.heap.size := Nat.le_trans hB h.below.size
 refine ⟨h.mem.alloc hn hBw t hc, h.ext.alloc hn hna rfl _, h.below.alloc hBw _, fun m hm => ?_, h.fra, fun m b hf => ?_⟩
 ·simp only [newRho]
  rw [if_neg (by omega)]
  exact h.fresh m hm
 ·rcases find_cons hf with ⟨rfl, _⟩ | ⟨_, h2⟩
  ·exact hlt
  ·exact h.names m b h2
theorem BelowF.mono {F G : Foot} {w w' : World} (h : BelowF F w w') (hF : ∀ x, F.has x → G.has x) : BelowF G w w' := ⟨h.os, h.tape, h.output, h.size, fun k hk => h.block k fun q => hk (hF k q)⟩
theorem foot_froz {fr : List (Nat × Blk)} (hf : Froz R fr) (x : Nat) (h : (footOf ρ (fr ++ H) w).has x) : (footOf ρ H w).has x := by
 rcases h with h | ⟨n, b, h1, h2, h3⟩
 ·exact .inl h
 ·rw [find_append] at h1
  cases hq : find fr n with
  | some c =>
   rw [hq] at h1
   simp at h1
   subst h1
   obtain ⟨c', -, e⟩ := hf n c hq
   rw [e] at h2
   cases h2
  | none =>
   rw [hq] at h1
   exact .inr ⟨n, b, by simpa using h1, h2, h3⟩
def cutRho (ρ ρ' : Rho) (b0 b1 : Nat) : Rho := { b := fun n => if b0 ≤ n ∧ n < b1 then ρ n else ρ' n, a := fun n => if b0 ≤ n ∧ n < b1 then ρ.a n else ρ'.a n, m := ρ'.m }
theorem cut_ext {ρ' : Rho} (h : Ext ρ ρ') (b0 b1 : Nat) : Ext ρ (cutRho ρ ρ' b0 b1) := ⟨fun n x e => by
 simp only [cutRho]
 split
 ·exact e
 ·exact h.b n x e, fun n x e => by
 simp only [cutRho]
 split
 ·exact e
 ·exact h.a n x e, h.m⟩
theorem cut_of {ρ' : Rho} (h : Ext ρ ρ') (b0 b1 : Nat) : Ext (cutRho ρ ρ' b0 b1) ρ' := ⟨fun n x e => by
 simp only [cutRho] at e
 split at e
 ·exact h.b n x e
 ·exact e, fun n x e => by
 simp only [cutRho] at e
 split at e
 ·exact h.a n x e
 ·exact e, rfl⟩
theorem cut_in {ρ' : Rho} {b0 b1 n : Nat} (h0 : b0 ≤ n) (h1 : n < b1) : cutRho ρ ρ' b0 b1 n = ρ n ∧ (cutRho ρ ρ' b0 b1).a n = ρ.a n := by simp [cutRho, h0, h1]
theorem cut_out {ρ' : Rho} {b0 b1 n : Nat} (h : n < b0 ∨ b1 ≤ n) : cutRho ρ ρ' b0 b1 n = ρ' n ∧ (cutRho ρ ρ' b0 b1).a n = ρ'.a n := by
 have : ¬ (b0 ≤ n ∧ n < b1) := by omega
 simp [cutRho, this]
theorem okNs_mem {b0 b1 : Nat} {l : List Nat} (h : okNs b0 b1 l = true) {n : Nat} (hn : n ∈ l) : n < b0 ∨ b1 ≤ n := by
 have := List.all_eq_true.1 h n hn
 simp only [Bool.or_eq_true] at this
 exact this.imp (fun q => by simpa [Nat.blt_eq] using q) Nat.le_of_ble_eq_true
end
section
variable {ρ ρ' : Rho} (hm : ρ'.m = ρ.m)
include hm
theorem QRel.turn {x : SE} {off : Nat} {v : Value} (h : QRel ρ x off v) : QRel ρ' x off v := by unfold QRel at *; rw [hm]; exact h
theorem CapsRel.turn : ∀ {cs : List Cap} {vs : List Value}, (∀ n ∈ capNs cs, ρ' n = ρ n) → CapsRel ρ cs vs → CapsRel ρ' cs vs
 | [], [], _, _ => trivial
 | .p b off :: cs, v :: vs, hb, ⟨⟨n, h1, h2⟩, k⟩ => ⟨⟨n, by rw [hb b (by simp [capNs])]; exact h1, h2⟩, CapsRel.turn (fun m hm' => hb m (by simp [capNs, hm'])) k⟩
 | .q x off :: cs, v :: vs, hb, ⟨h1, k⟩ => ⟨QRel.turn hm h1, CapsRel.turn (fun m hm' => hb m (by simpa [capNs] using hm')) k⟩
 | [], _ :: _, _, h => h.elim
 | .p _ _ :: _, [], _, h => h.elim
 | .q _ _ :: _, [], _, h => h.elim
theorem CRel.turn {c : SC} {v : Value} (hb : ∀ n ∈ namesC c, ρ' n = ρ n ∧ ρ'.a n = ρ.a n) (h : CRel ρ c v) : CRel ρ' c v := by
 cases c with
 | e x => exact h
 | p b off => obtain ⟨n, a, k⟩ := h; exact ⟨n, by rw [(hb b (by simp [namesC])).1]; exact a, k⟩
 | fn f caps => obtain ⟨vs, a, k⟩ := h; exact ⟨vs, a.turn hm (fun n hn => (hb n (by simpa [namesC] using hn)).1), k⟩
 | sl b off len cap => obtain ⟨n, a, k⟩ := h; exact ⟨n, by rw [(hb b (by simp [namesC])).1]; exact a, k⟩
 | le x => obtain ⟨κs, a, k⟩ := h; exact ⟨κs, a, by rw [hm]; exact k⟩
 | nl z => exact h
 | ar n k => obtain ⟨A, L, a, r⟩ := h; exact ⟨A, L, by rw [(hb n (by simp [namesC])).2]; exact a, r⟩
 | pl x off => exact QRel.turn hm h
 | pa n sz i off => obtain ⟨A, g, j, a, r⟩ := h; exact ⟨A, g, j, by rw [(hb n (by simp [namesC])).2]; exact a, r⟩
 | np => exact h
theorem CsRel.turn : ∀ {cs : List SC} {vs : List Value}, (∀ n ∈ cs.flatMap namesC, ρ' n = ρ n ∧ ρ'.a n = ρ.a n) → CsRel ρ cs vs → CsRel ρ' cs vs
 | [], [], _, _ => trivial
 | c :: cs, v :: vs, hb, ⟨h, k⟩ => ⟨CRel.turn hm (fun n hn => hb n (by simp [hn])) h, CsRel.turn (fun n hn => hb n (by rw [List.flatMap_cons]; exact List.mem_append_right _ hn)) k⟩
 | [], _ :: _, _, h => h.elim
 | _ :: _, [], _, h => h.elim
theorem PRel.turn {c : SP} {v : Value} (hb : ∀ n ∈ namesP c, ρ' n = ρ n ∧ ρ'.a n = ρ.a n) (h : PRel ρ c v) : PRel ρ' c v := by
 cases c with
 | c x => exact CRel.turn hm hb h
 | agg cs => obtain ⟨vs, e, k⟩ := h; exact ⟨vs, e, k.turn hm hb⟩
theorem PsRel.turn : ∀ {cs : List SP} {vs : List Value}, (∀ n ∈ cs.flatMap namesP, ρ' n = ρ n ∧ ρ'.a n = ρ.a n) → PsRel ρ cs vs → PsRel ρ' cs vs
 | [], [], _, _ => trivial
 | c :: cs, v :: vs, hb, ⟨h, k⟩ => ⟨PRel.turn hm (fun n hn => hb n (by simp [hn])) h, PsRel.turn (fun n hn => hb n (by rw [List.flatMap_cons]; exact List.mem_append_right _ hn)) k⟩
 | [], _ :: _, _, h => h.elim
 | _ :: _, [], _, h => h.elim
theorem VRel.turn {c : SV} {v : Value} (hb : ∀ n ∈ namesV c, ρ' n = ρ n ∧ ρ'.a n = ρ.a n) (h : VRel ρ c v) : VRel ρ' c v := by
 cases c with
 | p x => exact PRel.turn hm hb h
 | tup xs => obtain ⟨vs, e, k⟩ := h; exact ⟨vs, e, k.turn hm hb⟩
 | any => trivial
end
section
variable {B : Foot} {w0 : World} {ρ : Rho} {H R : List (Nat × Blk)} {nx : Nat} {w : World}
theorem WRel.cut {ρ' : Rho} {b0 b1 : Nat} (h : WRel B w0 ρ' H nx w) (hx : Ext ρ ρ') (hH : okH b0 b1 H = true) (hnx : b1 ≤ nx) : WRel B w0 (cutRho ρ ρ' b0 b1) H nx w := by
 have hc := cut_of hx b0 b1
 have hb : ∀ {n : Nat} {b : Blk}, find H n = some b → (n < b0 ∨ b1 ≤ n) ∧ ∀ m ∈ b.cells.flatMap namesC, m < b0 ∨ b1 ≤ m := fun hf => by
  have := List.all_eq_true.1 hH _ (find_mem hf)
  simp only [Bool.and_eq_true] at this
  exact ⟨okNs_mem this.1 (by simp), fun m hm => okNs_mem this.2 hm⟩
 refine ⟨⟨fun n x e => h.mem.lt n x (hc.b _ _ e), fun n m x e e' => h.mem.inj n m x (hc.b _ _ e) (hc.b _ _ e'), fun n b x hf e => ?_⟩, ⟨fun a v hv => h.ext.mem a v hv, fun n b x hf e a ha => h.ext.off n b x hf (hc.b _ _ e) a ha, fun n b κs c A hf hb' e => h.ext.arr n b κs c A hf hb' (hc.a _ _ e), fun n b A g hf hb' e hg => ?_, fun n b hf => ?_, fun n n' b b' A A' g hf hf' hb hb' e e' => h.ext.inja n n' b b' A A' g hf hf' hb hb' (hc.a _ _ e) (hc.a _ _ e')⟩, h.below, fun n hn => ?_, fun n hn => ?_, h.names⟩
 ·obtain ⟨q1, vs, q2, q3⟩ := h.mem.blk n b x hf (hc.b _ _ e)
  exact ⟨q1, vs, q2, CsRel.turn (ρ := ρ') (ρ' := cutRho ρ ρ' b0 b1) rfl (fun m hm => cut_out ((hb hf).2 m hm)) q3⟩
 ·obtain ⟨q1, q2, q3⟩ := h.ext.offa n b A g hf hb' (hc.a _ _ e) hg
  exact ⟨q1, q2, fun m y hy => q3 m y (hc.b _ _ hy)⟩
 ·obtain ⟨q1, q2⟩ := h.ext.has n b hf
  have e := cut_out (ρ := ρ) (ρ' := ρ') (hb hf).1
  exact ⟨fun h => by rw [e.2]; exact q1 h, fun h => by rw [e.1]; exact q2 h⟩
 ·rw [(cut_out (.inr (Nat.le_trans hnx hn))).1]; exact h.fresh n hn
 ·rw [(cut_out (.inr (Nat.le_trans hnx hn))).2]; exact h.fra n hn
theorem find_dropR {n : Nat} {b : Blk} (h : find (dropR R H) n = some b) : find H n = some b ∧ find R n = none := by
 unfold dropR at h
 rw [find_filter (fun n => !(R.any fun q => Nat.beq q.1 n)) H n] at h
 split at h
 ·rename_i hq
  refine ⟨h, ?_⟩
  cases hr : find R n with
  | none => rfl
  | some c =>
   have h2 : (R.any fun q => Nat.beq q.1 n) = true := List.any_eq_true.2 ⟨(n, c), find_mem hr, Nat.beq_refl n⟩
   rw [h2] at hq
   cases hq
 ·cases h
theorem WRel.apart (h : WRel B w0 ρ H nx w) (hR : ∀ n b, find R n = some b → find H n = some b ∧ b.arr = none) : RRel B ρ R w := fun n b hf => by
 obtain ⟨q1, q2⟩ := hR n b hf
 obtain ⟨x, hx⟩ := (h.ext.has n b q1).2 q2
 exact ⟨q2, x, hx, (h.mem.blk n b x q1 hx).1, (h.mem.blk n b x q1 hx).2, h.ext.off n b x q1 hx⟩
theorem WRel.drew (h : WRel B w0 ρ H nx w) : WRel B w0 ρ H nx w.drew := ⟨⟨h.mem.lt, h.mem.inj, h.mem.blk⟩, h.ext.drew, ⟨h.below.os, h.below.tape, h.below.output, h.below.size, h.below.block⟩, h.fresh, h.fra, h.names⟩
end
theorem lateR_sound {P : Program} {w : World} {ρ : Rho} {g : Get} {e : Operand → Value} (hg : ∀ x sv, g x = some sv → VRel ρ sv (e x)) {B : Foot} {H : List (Nat × Blk)} (hH : HRel B ρ H w) {o : Oper} {r : Res} (h : (pureStep P H g o.op).den = some r) {n : Nat} {v : SV} {bl : Blk} (hr : lateR n r = some (v, bl)) :
 ∃ (cs : List SC) (vs : List Value) (t : TypeId) (x : Value), bl = { cells := cs, elem := t, own := true } ∧ (execOp e o).run P w = .ok (.value x) (w.alloc (.cells vs.toArray t)) ∧ CsRel ρ cs vs ∧ ∀ ρ' : Rho, ρ' n = some w.heap.size → VRel ρ' v x := by
 have hs := pure_sound hg hH h
 unfold lateR at hr
 split at hr
 ·simp only [Option.some.injEq, Prod.mk.injEq] at hr
  obtain ⟨rfl, rfl⟩ := hr
  obtain ⟨vs, h1, h2⟩ := hs
  exact ⟨_, vs, _, _, rfl, h1, h2, fun ρ' h' => ⟨_, h', rfl⟩⟩
 ·simp only [Option.some.injEq, Prod.mk.injEq] at hr
  obtain ⟨rfl, rfl⟩ := hr
  obtain ⟨vs, h1, h2⟩ := hs
  exact ⟨_, vs, _, _, rfl, h1, h2, fun ρ' h' => ⟨_, h', rfl⟩⟩
 ·cases hr
section
variable {P : Program} {I : World → Prop} {rec : Rec} (hrec : RecOK P I rec) {B : Foot} {w0 : World} (hB : B.base ≤ w0.heap.size) (hI : ∀ w, BelowF B w0 w → I w) {M : Env} (hM : MOK P I M) {S : List Sum} (hS : ∀ c ∈ S, SumOK P I c)
variable {ops : Array Oper} {R : List (Nat × Blk)} {base : Nat} {late : Nat → Bool} {st : Nat → St}
def MemC (B : Foot) (w0 : World) (ops : Array Oper) (st : Nat → St) (R : List (Nat × Blk)) (base : Nat) (late : Nat → Bool) (L : Array Bool) (ρ : Rho) (w : World) : Prop :=
 ∃ p, p ≤ ops.size ∧ (∀ j o, j < p → ops[j]? = some o → isLight o = false → L.getD j false = true) ∧ (∀ j o, p ≤ j → ops[j]? = some o → isLight o = false → late j = false → L.getD j false = false) ∧
  WRel B w0 ρ (st p).H (st p).nx w ∧ (∀ n b, find (st p).H n = some b → find R n = none ∧ (n < base + p ∨ base + ops.size ≤ n)) ∧ base + ops.size ≤ (st p).nx ∧
  ∀ j b, p ≤ j → j < ops.size → late j = true → L.getD j false = true → find (st (j + 1)).H (base + j) = some b → RRel B ρ [(base + j, b)] w
structure JC (B : Foot) (w0 : World) (ops : Array Oper) (st : Nat → St) (R : List (Nat × Blk)) (base : Nat) (late : Nat → Bool) (ρ0 : Rho) (L : Array Bool) (ρ : Rho) (a : Act) (w : World) : Prop where
 ext : Ext ρ0 ρ
 size : L.size = ops.size
 down : ∀ k o, ops[k]? = some o → L.getD k false = true → ∀ e ∈ o.after, Region.binds .any e = true → L.getD e.on false = true
 tsz : a.tmps.size = (st 0).T.length
 done : ∀ j o t sv, ops[j]? = some o → o.dst = some t → L.getD j false = true → (st ops.size).T[t]? = some sv → ∃ v, a.tmps[t]? = some v ∧ VRel ρ sv v
 todo : ∀ t sv, (∀ j o, ops[j]? = some o → o.dst = some t → L.getD j false = false) → (st 0).T[t]? = some sv → ∃ v, a.tmps[t]? = some v ∧ VRel ρ sv v
 defers : a.defers = []
 rr : RRel B ρ R w
 res : ∀ j, j < ops.size → late j = true → L.getD j false = false → ρ (base + j) = none ∧ ρ.a (base + j) = none
 mem : MemC B w0 ops st R base late L ρ w
variable (F : ∀ i o, ops[i]? = some o → FactC M rec P S ops R base late i o (st i) (st (i + 1))) (hla : ∀ i o, ops[i]? = some o → late i = true → isLight o = false) (hd : apartD (ops.toList.map (·.dst)) = true)
include F
omit hrec hB hI hM hS in
theorem fc_T {i : Nat} {o : Oper} (ho : ops[i]? = some o) : ∃ v, (st (i + 1)).T = putT (st i).T o.dst v := by
 obtain ⟨b, _, h1, h2, h3, h4⟩ := F i o ho
 cases b with
 | false => rw [(h1 rfl).2]; exact ⟨_, rfl⟩
 | true =>
  cases hla : late i with
  | true => obtain ⟨r, v, bl, _, _, e⟩ := h2 rfl hla; rw [e]; exact ⟨_, rfl⟩
  | false =>
   cases hl : isLight o with
   | true => obtain ⟨v0, v, _, _, e⟩ := h3 rfl hla hl; rw [e]; exact ⟨_, rfl⟩
   | false => obtain ⟨s1, fr, _, _, _, _, _, e⟩ := h4 rfl hla hl; rw [e]; exact ⟨_, rfl⟩
omit hrec hB hI hM hS in
theorem fc_light {i : Nat} {o : Oper} (ho : ops[i]? = some o) (hl : isLight o = true) (hlt : late i = false) : (st (i + 1)).H = (st i).H ∧ (st (i + 1)).nx = (st i).nx := by
 obtain ⟨b, _, h1, h2, h3, h4⟩ := F i o ho
 cases b with
 | false => rw [(h1 rfl).2]; exact ⟨rfl, rfl⟩
 | true => obtain ⟨v0, v, _, _, e⟩ := h3 rfl hlt hl; rw [e]; exact ⟨rfl, rfl⟩
omit hrec hB hI hM hS in
theorem fc_late {i : Nat} {o : Oper} (ho : ops[i]? = some o) (hlt : late i = true) : ∃ bl, (st (i + 1)).H = (base + i, bl) :: (st i).H ∧ (st (i + 1)).nx = (st i).nx := by
 obtain ⟨b, _, h1, h2, h3, h4⟩ := F i o ho
 cases b with
 | false => rw [(h1 rfl).1] at hlt; cases hlt
 | true => obtain ⟨r, v, bl, _, _, e⟩ := h2 rfl hlt; rw [e]; exact ⟨bl, rfl, rfl⟩
omit hrec hB hI hM hS in
theorem fc_len : ∀ {i : Nat}, i ≤ ops.size → (st i).T.length = (st 0).T.length
 | 0, _ => rfl
 | i + 1, h => by
  obtain ⟨v, hv⟩ := fc_T F (i := i) (o := ops[i]'(by omega)) (Array.getElem?_eq_getElem (by omega))
  rw [hv, ← fc_len (i := i) (by omega)]
  cases (ops[i]'(by omega)).dst <;> simp [putT]
omit hrec hB hI hM hS in
theorem fc_keep : ∀ {i k t : Nat}, i + k ≤ ops.size → (∀ j o, i ≤ j → j < i + k → ops[j]? = some o → o.dst ≠ some t) → (st (i + k)).T[t]? = (st i).T[t]?
 | i, 0, t, _, _ => rfl
 | i, k + 1, t, h, hk => by
  have ih := fc_keep (i := i) (k := k) (t := t) (by omega) fun j o h1 h2 => hk j o h1 (by omega)
  have ho : ops[i + k]? = some (ops[i + k]'(by omega)) := Array.getElem?_eq_getElem (by omega)
  obtain ⟨v, hv⟩ := fc_T F ho
  have hd := hk (i + k) _ (by omega) (by omega) ho
  rw [show i + (k + 1) = i + k + 1 by omega, hv, ← ih]
  cases hdst : (ops[i + k]'(by omega)).dst with
  | none => rfl
  | some d =>
   rw [hdst] at hd
   simp only [putT]
   rw [List.getElem?_set_ne (fun e => hd (by rw [e]))]
omit hrec hB hI hM hS in
theorem fc_join {ρ : Rho} {w : World} {p : Nat} (hW : WRel B w0 ρ (st p).H (st p).nx w) : ∀ {k : Nat}, p + k ≤ ops.size → (∀ j o, p ≤ j → j < p + k → ops[j]? = some o → (isLight o = true ∧ late j = false) ∨ late j = true) → (∀ j b, p ≤ j → j < p + k → late j = true → find (st (j + 1)).H (base + j) = some b → RRel B ρ [(base + j, b)] w) →
 WRel B w0 ρ (st (p + k)).H (st (p + k)).nx w ∧ (st (p + k)).nx = (st p).nx ∧ ∀ n b, find (st (p + k)).H n = some b → find (st p).H n = some b ∨ ∃ j, p ≤ j ∧ j < p + k ∧ n = base + j
 | 0, _, _, _ => ⟨hW, rfl, fun n b hf => .inl hf⟩
 | k + 1, h, hl, hr => by
  obtain ⟨q1, q2, q3⟩ := fc_join hW (k := k) (by omega) (fun j o h1 h2 => hl j o h1 (by omega)) (fun j b h1 h2 => hr j b h1 (by omega))
  have ho : ops[p + k]? = some (ops[p + k]'(by omega)) := Array.getElem?_eq_getElem (by omega)
  rcases hl (p + k) _ (by omega) (by omega) ho with ⟨h1, h2⟩ | h1
  ·obtain ⟨e1, e2⟩ := fc_light F ho h1 h2
   rw [show p + (k + 1) = p + k + 1 by omega, e1, e2]
   exact ⟨q1, q2, fun n b hf => (q3 n b hf).imp id fun ⟨j, j1, j2, j3⟩ => ⟨j, j1, by omega, j3⟩⟩
  ·obtain ⟨bl, e1, e2⟩ := fc_late F ho h1
   have hR := hr (p + k) bl (by omega) (by omega) h1 (by rw [e1]; simp only [find]; rw [if_pos (Nat.beq_refl _)])
   rw [show p + (k + 1) = p + k + 1 by omega, e1, e2]
   refine ⟨q1.join hR fun n b hf => ?_, q2, fun n b hf => ?_⟩
   ·rcases find_cons hf with ⟨rfl, rfl⟩ | ⟨_, h2⟩
    ·exact .inl (by simp only [find]; rw [if_pos (Nat.beq_refl _)])
    ·exact .inr h2
   ·rcases find_cons hf with ⟨rfl, rfl⟩ | ⟨_, h2⟩
    ·exact .inr ⟨p + k, by omega, by omega, rfl⟩
    ·exact (q3 n b h2).imp id fun ⟨j, j1, j2, j3⟩ => ⟨j, j1, by omega, j3⟩
include hd
omit hrec hB hI hM hS in
theorem JC.next {ρ0 : Rho} {L : Array Bool} {ρ ρ' : Rho} {a : Act} {w w' : World} (J : JC B w0 ops st R base late ρ0 L ρ a w) {i : Nat} {o : Oper} (ho : ops[i]? = some o) (hpre : ∀ e ∈ o.after, Region.binds .any e = true → L.getD e.on false = true)
 {v : SV} {x : Value} (hT : (st (i + 1)).T = putT (st i).T o.dst v) (hv : VRel ρ' v x) (hx : Ext ρ ρ') (hrr : RRel B ρ' R w')
 (hres : ∀ j, j < ops.size → late j = true → j ≠ i → L.getD j false = false → ρ' (base + j) = none ∧ ρ'.a (base + j) = none) (hmem : MemC B w0 ops st R base late (L.setIfInBounds i true) ρ' w') :
 JC B w0 ops st R base late ρ0 (L.setIfInBounds i true) ρ' (a.put o.dst x) w' := by
 have hi : i < ops.size := (Array.getElem?_eq_some_iff.1 ho).1
 have hiL : i < L.size := by rw [J.size]; exact hi
 have dst_eq : ∀ j o', ops[j]? = some o' → ∀ t, o'.dst = some t → o.dst = some t → j = i := fun j o' hj t h1 h2 =>
  apartD_spec hd j i t (by simp [hj, h1]) (by simp [ho, h2])
 refine ⟨J.ext.trans hx, by simp [J.size], fun k o' hk hL e he hbn => ?_, ?_, fun j o' t sv hj hdst hL hs => ?_, fun t sv hn hs => ?_, put_defers _ _ J.defers, hrr, fun j hj hjl hL => ?_, hmem⟩
 ·rw [getD_set hiL] at hL ⊢
  split
  ·rfl
  ·split at hL
   ·rename_i e; subst e; rw [ho] at hk; cases hk; exact hpre e he hbn
   ·exact J.down k o' hk hL e he hbn
 ·rw [← J.tsz]; cases o.dst <;> simp [Act.put]
 ·by_cases e : j = i
  ·subst e
   rw [ho] at hj
   cases hj
   have hk := fc_keep F (i := j + 1) (k := ops.size - (j + 1)) (t := t) (by omega) (fun k o' h1 h2 hk hdk => by have := dst_eq k o' hk t hdk hdst; omega)
   rw [show j + 1 + (ops.size - (j + 1)) = ops.size by omega] at hk
   rw [hk, hT, hdst] at hs
   simp only [putT] at hs
   have hlt : t < (st j).T.length := by
    rcases Nat.lt_or_ge t (st j).T.length with h | h
    ·exact h
    ·rw [List.getElem?_eq_none (by simpa using h)] at hs; simp at hs
   rw [List.getElem?_set_self hlt] at hs
   simp at hs
   subst hs
   refine ⟨x, ?_, hv⟩
   rw [hdst]
   simp only [Act.put]
   have : t < a.tmps.size := by rw [J.tsz, ← fc_len F (i := j) (by omega)]; exact hlt
   simp [this]
  ·rw [getD_set hiL, if_neg e] at hL
   obtain ⟨u, hu, hr⟩ := J.done j o' t sv hj hdst hL hs
   refine ⟨u, ?_, VRel.mono hx hr⟩
   cases hod : o.dst with
   | none => exact hu
   | some d =>
    simp only [Act.put]
    rw [Array.getElem?_setIfInBounds_ne (fun e' => e (dst_eq j o' hj t hdst (by rw [hod, e'])))]
    exact hu
 ·have hnd : o.dst ≠ some t := fun e => by
   have := hn i o ho e
   rw [getD_set hiL, if_pos rfl] at this
   exact Bool.noConfusion this
  obtain ⟨u, hu, hr⟩ := J.todo t sv (fun j o' hj hdst => by
   have := hn j o' hj hdst
   rw [getD_set hiL] at this
   split at this
   ·exact Bool.noConfusion this
   ·exact this) hs
  refine ⟨u, ?_, VRel.mono hx hr⟩
  cases hod : o.dst with
  | none => exact hu
  | some d =>
   simp only [Act.put]
   rw [Array.getElem?_setIfInBounds_ne (fun e' => hnd (by rw [hod, e']))]
   exact hu
 ·rw [getD_set hiL] at hL
  split at hL
  ·cases hL
  ·rename_i hne
   exact hres j hj hjl hne hL
variable (hh : hangs (ops.toList.map (·.dst)) ops (masks [] ops.toList) 0 [] ops.toList = true) (hRb : ∀ n b, find R n = some b → n < base) (hc : ∀ i o, ops[i]? = some o → isLight o = false → late i = false → ∀ j o', j < i → ops[j]? = some o' → isLight o' = false → ((masks [] ops.toList).getD i 0).testBit j = true)
include hrec hB hI hM hS hla hh hRb hc
set_option maxHeartbeats 2000000 in
theorem JC.any {ρ0 : Rho} {Q : Exit → Act → World → Prop} (hQ : ∀ ρ a w, Ext ρ0 ρ → StRel B w0 ρ { st ops.size with H := R ++ (st ops.size).H } a w → Q .normal a w) : ∀ (fuel : Nat) (L : Array Bool) (ρ : Rho) (a : Act) (w : World), JC B w0 ops st R base late ρ0 L ρ a w →
 cnt (fun j => L.getD j false) ops.size ≤ fuel → wpAny P .any ops Q fuel L a w := by
 have back : ∀ k o, ops[k]? = some o → ∀ e ∈ o.after, Region.binds .any e = true → e.on < k := fun k o hk e he hb => by
  have := (hangs_spec (D := fun _ => True) hh rfl (fun _ _ _ h => by simp at h) (fun _ _ _ _ _ _ _ => trivial) k o (by simpa using hk)).1 e he hb
  simpa using this
 have fin : ∀ (L : Array Bool) (ρ : Rho) (a : Act) (w : World), JC B w0 ops st R base late ρ0 L ρ a w → (∀ j, j < ops.size → L.getD j false = true) → Q .normal a w := fun L ρ a w J hall => by
  obtain ⟨p, p1, p2, p3, p4, p5, p6, p7⟩ := J.mem
  obtain ⟨q1, q2, q3⟩ := fc_join F (p := p) (k := ops.size - p) p4 (by omega) (fun j o h1 h2 ho => by
   cases hlt : late j with
   | true => exact .inr rfl
   | false =>
    cases hl : isLight o with
    | true => exact .inl ⟨rfl, rfl⟩
    | false =>
     have := p3 j o h1 ho hl hlt
     rw [hall j (by omega)] at this
     cases this) (fun j b h1 h2 hlt hf => p7 j b h1 (by omega) hlt (hall j (by omega)) hf)
  rw [show p + (ops.size - p) = ops.size by omega] at q1
  refine hQ ρ a w J.ext ⟨?_, ?_, J.defers⟩
  ·refine WRel.join (R := R) (H := (st ops.size).H) ?_ J.rr ?_
   ·exact q1
   ·intro n b hf
    have hf : find (R ++ (st ops.size).H) n = some b := hf
    rw [find_append] at hf
    cases hr : find R n with
    | some c => rw [hr] at hf; exact .inl hf
    | none => rw [hr] at hf; exact .inr hf
  ·refine vsRel_of (by show (st ops.size).T.length = _; rw [fc_len F (Nat.le_refl _), ← J.tsz]; simp) fun t sv ht => ?_
   have ht : (st ops.size).T[t]? = some sv := ht
   classical
   by_cases h : ∃ (j : Nat) (o : Oper), ops[j]? = some o ∧ o.dst = some t
   ·obtain ⟨j, o, hj, hdst⟩ := h
    obtain ⟨v, hv, hr⟩ := J.done j o t sv hj hdst (hall j (Array.getElem?_eq_some_iff.1 hj).1) ht
    exact ⟨v, by simpa using hv, hr⟩
   ·have hk := fc_keep F (i := 0) (k := ops.size) (t := t) (by omega) (fun j o _ _ hj hdst => h ⟨j, o, hj, hdst⟩)
    simp only [Nat.zero_add] at hk
    rw [hk] at ht
    obtain ⟨v, hv, hr⟩ := J.todo t sv (fun j o hj hdst => absurd ⟨j, o, hj, hdst⟩ h) ht
    exact ⟨v, by simpa using hv, hr⟩
 have gtrue : ∀ (L : Array Bool) (j : Nat), L.size = ops.size → j < ops.size → L.getD j true = L.getD j false := fun L j hl hj => by
  have : j < L.size := by omega
  simp [Array.getD, this]
 intro fuel
 induction fuel with
 | zero =>
  intro L ρ a w J hcn
  have hall := cnt_zero (L := fun j => L.getD j false) (n := ops.size) (by omega)
  refine ⟨?_, fin L ρ a w J hall⟩
  cases hr : Region.ready .any ops L with
  | nil => rfl
  | cons j js =>
   have hj : j ∈ Region.ready .any ops L := by rw [hr]; simp
   obtain ⟨h1, o, ho, _⟩ := mem_ready.1 hj
   have hlt := (Array.getElem?_eq_some_iff.1 ho).1
   rw [gtrue L j J.size hlt] at h1
   have h2 := hall j hlt
   rw [show L.getD j false = true from h2] at h1
   exact Bool.noConfusion h1
 | succ fuel ih =>
  intro L ρ a w J hcn
  refine ⟨fun hr => fin L ρ a w J ?_, fun i hi => ?_⟩
  ·have key : ∀ n j, j < n → j < ops.size → L.getD j false = true := by
    intro n
    induction n with
    | zero => intro j hj; omega
    | succ n ihn =>
     intro j hj hjs
     cases hL : L.getD j false with
     | true => rfl
     | false =>
      exfalso
      have hmem : j ∈ Region.ready .any ops L := mem_ready.2 ⟨by rw [gtrue L j J.size hjs]; exact hL, _, Array.getElem?_eq_getElem hjs, fun e he hb => by
       have := back j _ (Array.getElem?_eq_getElem hjs) e he hb
       exact ihn e.on (by omega) (by omega)⟩
      rw [hr] at hmem
      cases hmem
   exact fun j hj => key ops.size j hj hj
  ·obtain ⟨h1, o, ho, hpre⟩ := mem_ready.1 hi
   have hlt := (Array.getElem?_eq_some_iff.1 ho).1
   have hlt' := hlt
   rw [gtrue L i J.size hlt] at h1
   have hiL : i < L.size := by rw [J.size]; exact hlt
   have hcnt : cnt (fun j => (L.setIfInBounds i true).getD j false) ops.size ≤ fuel := by
    have := cnt_set (L := fun j => L.getD j false) (L' := fun j => (L.setIfInBounds i true).getD j false) (i := i) h1 (by show (L.setIfInBounds i true).getD i false = true; rw [getD_set hiL, if_pos rfl]) (fun j hj => by show (L.setIfInBounds i true).getD j false = L.getD j false; rw [getD_set hiL, if_neg hj]) hlt
    omega
   have closed : ∀ {D : Nat → Prop}, (∀ k o, ops[k]? = some o → D k → ∀ e ∈ o.after, Region.binds .any e = true → D e.on) → ∀ {k m j : Nat}, (masks [] ops.toList).getD k 0 = m → D k → m.testBit j = true → D j := by
    intro D hD k m j hk hDk hm
    have hin := masks_in (D := D) (l := ops.toList) (acc := []) (fun _ _ _ h => by simp at h) (fun k o hk hd => hD k o (by simpa using hk) (by simpa using hd))
    cases hq : (masks [] ops.toList)[k]? with
    | none => simp [List.getD, hq] at hk; subst hk; simp at hm
    | some q => simp [List.getD, hq] at hk; subst hk; exact hin k q j hq hDk hm
   have slots : ∀ t ∈ Oper.looksAt ops o, ∀ sv, (st i).T[t]? = some sv → ∃ v, a.tmps[t]? = some v ∧ VRel ρ sv v := by
    intro t ht sv hs
    classical
    by_cases h : ∃ (j : Nat) (o' : Oper), ops[j]? = some o' ∧ o'.dst = some t
    ·obtain ⟨j, o', hj, hdst⟩ := h
     have hsp := (hangs_spec (D := fun j => j = i ∨ L.getD j false = true) hh rfl (fun _ _ _ h => by simp at h) (fun k o2 hk hD e he hb => by
      have hk' : ops[k]? = some o2 := by simpa using hk
      simp only [Nat.zero_add] at hD
      rcases hD with rfl | hD
      ·rw [ho] at hk'; cases hk'; exact .inr (hpre e he hb)
      ·exact .inr (J.down k o2 hk' hD e he hb)) i o (by simpa using ho)).2 (fun e he hb => .inr (hpre e he hb)) j t (by simp [hj, hdst]) ht
     simp only [Nat.zero_add] at hsp
     have uniq : ∀ k o2, ops[k]? = some o2 → o2.dst = some t → k = j := fun k o2 hk hk2 => apartD_spec hd k j t (by simp [hk, hk2]) (by simp [hj, hdst])
     rcases hsp with hsp | ⟨hij, hbit⟩
     case inr =>
      have hLj : L.getD j false = false := by
       cases hq : L.getD j false with
       | false => rfl
       | true =>
        have hD := closed (D := fun k => L.getD k false = true) J.down rfl hq hbit
        rw [h1] at hD
        exact Bool.noConfusion hD
      have hk := fc_keep F (i := 0) (k := i) (t := t) (by omega) (fun j' o' _ hlt' hj' hdst' => by have := uniq j' o' hj' hdst'; omega)
      simp only [Nat.zero_add] at hk
      exact J.todo t sv (fun j' o' hj' hdst' => by rw [uniq j' o' hj' hdst']; exact hLj) (by rw [← hk]; exact hs)
     have hLj : L.getD j false = true := by
      rcases hsp.2 with e | e
      ·omega
      ·exact e
     have hk1 := fc_keep F (i := j + 1) (k := i - (j + 1)) (t := t) (by omega) (fun k o2 a1 a2 hk hk2 => by have := uniq k o2 hk hk2; omega)
     have hk2 := fc_keep F (i := j + 1) (k := ops.size - (j + 1)) (t := t) (by omega) (fun k o2 a1 a2 hk hk2 => by have := uniq k o2 hk hk2; omega)
     rw [show j + 1 + (i - (j + 1)) = i by omega] at hk1
     rw [show j + 1 + (ops.size - (j + 1)) = ops.size by omega] at hk2
     exact J.done j o' t sv hj hdst hLj (by rw [hk2, ← hk1]; exact hs)
    ·have hk := fc_keep F (i := 0) (k := i) (t := t) (by omega) (fun j o' _ _ hj hdst => h ⟨j, o', hj, hdst⟩)
     simp only [Nat.zero_add] at hk
     exact J.todo t sv (fun j o' hj hdst => absurd ⟨j, o', hj, hdst⟩ h) (by rw [← hk]; exact hs)
   have hmask : VsRel ρ (maskT (Oper.looksAt ops o) 0 (st i).T) a.tmps.toList := by
    refine vsRel_of (by rw [maskT_length, fc_len F (by omega), ← J.tsz]; simp) fun t sv ht => ?_
    rw [maskT_get, Nat.zero_add] at ht
    simp only [Option.map_eq_some_iff] at ht
    obtain ⟨u, hu, e⟩ := ht
    split at e
    ·rename_i hin
     subst e
     obtain ⟨v, hv, hr⟩ := slots t (inN_mem hin) u hu
     exact ⟨v, by simpa using hv, hr⟩
    ·subst e
     have hlt' : t < a.tmps.size := by
      rw [J.tsz, ← fc_len F (i := i) (by omega)]
      exact (List.getElem?_eq_some_iff.1 hu).1
     exact ⟨a.tmps[t], by simp [hlt'], trivial⟩
   obtain ⟨b, hw, -⟩ := F i o ho
   have hwant : Region.wanted o (yielded ops a.tmps) = b := by
    unfold wantS at hw
    unfold Region.wanted
    split at hw
    ·rename_i hg; simp at hw; simp [hg, hw]
    ·rename_i j want hg
     simp only [hg]
     split at hw
     ·simp at hw
     ·rename_i d hdj
      have hdl : d ∈ Oper.looksAt ops o := by unfold Oper.looksAt; rw [hg]; simp [hdj]
      unfold yielded
      simp only [hdj, Option.bind_some]
      split at hw
      ·rename_i c hT
       obtain ⟨v, hv, hr⟩ := slots d hdl _ hT
       have e : v = .bool c := hr.1
       simp at hw
       simp [hv, e, ← hw]
      ·rename_i hT
       obtain ⟨v, hv, vs, e, hr⟩ := slots d hdl _ hT
       simp at hw
       simp [hv, e, ← hw]
      ·simp at hw
   obtain ⟨p, p1, p2, p3, p4, p5, p6, p7⟩ := J.mem
   have hFi := fun (o' : Oper) (h : ops[i]? = some o') => F i o' h
   have stay : isLight o = true → MemC B w0 ops st R base late (L.setIfInBounds i true) ρ w := fun hl => by
    have hnl : late i = false := by
     cases hq : late i with
     | false => rfl
     | true => rw [hla i o ho hq] at hl; cases hl
    refine ⟨p, p1, fun j o' hj hjo hh => ?_, fun j o' hj hjo hh hjl => ?_, p4, p5, p6, fun j b hj hjs hjl hL hf => ?_⟩
    ·rw [getD_set hiL]
     split
     ·rfl
     ·exact p2 j o' hj hjo hh
    ·rw [getD_set hiL, if_neg (fun e => by subst e; rw [ho] at hjo; cases hjo; rw [hl] at hh; cases hh)]
     exact p3 j o' hj hjo hh hjl
    ·rw [getD_set hiL, if_neg (fun e => by subst e; rw [hnl] at hjl; cases hjl)] at hL
     exact p7 j b hj hjs hjl hL hf
   have hpi : isLight o = false → p ≤ i := fun hl => by
    rcases Nat.lt_or_ge i p with h | h
    ·have := p2 i o h ho hl
     rw [h1] at this
     cases this
    ·exact h
   have go : isLight o = false → late i = false → WRel B w0 ρ (st i).H (st i).nx w ∧ (∀ n b, find (st i).H n = some b → find R n = none ∧ (n < base + i ∨ base + ops.size ≤ n)) ∧ base + ops.size ≤ (st i).nx ∧ (∀ j, j < i → late j = true → L.getD j false = true) ∧ (∀ j o, j < i + 1 → ops[j]? = some o → isLight o = false → (L.setIfInBounds i true).getD j false = true) ∧ (∀ j o, i + 1 ≤ j → ops[j]? = some o → isLight o = false → late j = false → (L.setIfInBounds i true).getD j false = false) := fun hl hlt => by
    have hpi := hpi hl
    have ahead : ∀ j o', j < i → ops[j]? = some o' → isLight o' = false → L.getD j false = true := fun j o' hj hjo hjl => by
     have hbt := hc i o ho hl hlt j o' hj hjo hjl
     rcases closed (D := fun k => k = i ∨ L.getD k false = true) (fun k o2 hk hD e he hb => by
      rcases hD with rfl | hD
      ·rw [ho] at hk; cases hk; exact .inr (hpre e he hb)
      ·exact .inr (J.down k o2 hk hD e he hb)) rfl (.inl rfl) hbt with h | h
     ·omega
     ·exact h
    have aheadL : ∀ j, j < i → late j = true → L.getD j false = true := fun j hj hjl => ahead j _ hj (Array.getElem?_eq_getElem (by omega)) (hla j _ (Array.getElem?_eq_getElem (by omega)) hjl)
    obtain ⟨q1, q2, q3⟩ := fc_join F (p := p) (k := i - p) p4 (by omega) (fun j o' hj1 hj2 hjo => by
     cases hlt' : late j with
     | true => exact .inr rfl
     | false =>
      cases hl' : isLight o' with
      | true => exact .inl ⟨rfl, rfl⟩
      | false =>
       have q1 := p3 j o' hj1 hjo hl' hlt'
       rw [ahead j o' (by omega) hjo hl'] at q1
       cases q1) (fun j b hj1 hj2 hjl hf => p7 j b hj1 (by omega) hjl (aheadL j (by omega) hjl) hf)
    rw [show p + (i - p) = i by omega] at q1 q2 q3
    refine ⟨q1, fun n b hf => ?_, by rw [q2]; exact p6, aheadL, fun j o' hj hjo hjl => ?_, fun j o' hj hjo hjl hjt => ?_⟩
    ·rcases q3 n b hf with h | ⟨j, j1, j2, rfl⟩
     ·obtain ⟨r1, r2⟩ := p5 n b h
      exact ⟨r1, by omega⟩
     ·refine ⟨?_, by omega⟩
      cases hr : find R (base + j) with
      | none => rfl
      | some c => have := hRb _ _ hr; omega
    ·rw [getD_set hiL]
     split
     ·rfl
     ·exact ahead j o' (by omega) hjo hjl
    ·rw [getD_set hiL, if_neg (by omega)]
     exact p3 j o' (by omega) hjo hjl hjt
   obtain ⟨b, hw', hno, hlate, hlight, hheavy⟩ := F i o ho
   rw [hw] at hw'
   cases hw'
   unfold wpOp
   simp only [ho, hwant]
   have resKeep : ∀ j, j < ops.size → late j = true → j ≠ i → L.getD j false = false → ρ (base + j) = none ∧ ρ.a (base + j) = none := fun j hj hjl _ hL => J.res j hj hjl hL
   have lates : ∀ {k : Nat} {Hk : List (Nat × Blk)} {nk : Nat}, p ≤ k → WRel B w0 ρ Hk nk w → (∀ n c, find Hk n = some c → n < base + k ∨ base + ops.size ≤ n) → ∀ {ρ' : Rho} {w' : World}, Ext ρ ρ' → BelowF (footOf ρ Hk w) w w' → ∀ j c, k ≤ j → j < ops.size → late j = true → L.getD j false = true → find (st (j + 1)).H (base + j) = some c → RRel B ρ' [(base + j, c)] w' := fun hpk hWk hn ρ' w' hx hb j c hj hjs hjl hL hf => by
    refine (p7 j c (by omega) hjs hjl hL hf).keep hWk (fun n d hd' => ?_) hx hb
    simp only [find]
    rw [if_neg (fun e => by have := beq_len e; have := hn n d hd'; omega)]
   cases b with
   | false =>
    simp only [Bool.false_eq_true, if_false]
    obtain ⟨hnl, e⟩ := hno rfl
    have hT : (st (i + 1)).T = putT (st i).T o.dst undefS := by rw [e]
    refine ih _ ρ _ w (J.next F hd ho hpre hT undef_rel (Ext.refl ρ) J.rr resKeep ?_) hcnt
    cases hl : isLight o with
    | true => exact stay hl
    | false =>
     obtain ⟨g1, g2, g3, g4, g5, g6⟩ := go hl hnl
     have hpi := hpi hl
     refine ⟨i + 1, by omega, g5, g6, ?_, ?_, ?_, fun j c hj hjs hjl hL hf => ?_⟩
     ·rw [e]; exact g1
     ·rw [e]; exact fun n c hf => ⟨(g2 n c hf).1, by have := (g2 n c hf).2; omega⟩
     ·rw [e]; exact g3
     ·rw [getD_set hiL, if_neg (by omega)] at hL
      exact p7 j c (by omega) hjs hjl hL hf
   | true =>
    simp only [if_true]
    refine .inl ?_
    have hg := lookT_rel hmask
    cases hlt : late i with
    | true =>
     obtain ⟨r, v, bl, q1, q2, e⟩ := hlate rfl hlt
     have hl := hla i o ho hlt
     have hpi := hpi hl
     obtain ⟨n1, n2⟩ := J.res i hlt' hlt h1
     have hW0 : HRel B ρ [] w := ⟨p4.mem.lt, p4.mem.inj, fun _ _ _ h => by simp [find] at h⟩
     obtain ⟨cs, vs, t, x, rfl, hr, hcs, hv⟩ := lateR_sound hg hW0 q1 q2
     have hx : Ext ρ (newRho ρ (base + i) w.heap.size) := newRho_ext n1
     have hW1 := p4.allocAt hB n1 n2 (by omega) t hcs
     have hb : BelowF (footOf ρ (st p).H w) w (w.alloc (.cells vs.toArray t)) := (BelowF.refl _ _).alloc (Nat.le_refl _) _
     unfold Oper.wp
     rw [hr]
     have hT : (st (i + 1)).T = putT (st i).T o.dst v := by rw [e]
     refine ih _ _ _ _ (J.next F hd ho hpre hT (hv _ (by simp [newRho])) hx (J.rr.keep p4 (fun n c hf => (p5 n c hf).1) hx hb) (fun j hj hjl hne hL => ?_) ⟨p, p1, fun j o' hj hjo hh => ?_, fun j o' hj hjo hh hjl => ?_, hW1.sub fun n c hf => ?_, p5, p6, fun j c hj hjs hjl hL hf => ?_⟩) hcnt
     ·obtain ⟨m1, m2⟩ := J.res j hj hjl hL
      refine ⟨?_, m2⟩
      simp only [newRho]
      rw [if_neg (by omega)]
      exact m1
     ·rw [getD_set hiL]
      split
      ·rfl
      ·exact p2 j o' hj hjo hh
     ·rw [getD_set hiL, if_neg (fun e => by subst e; rw [hlt] at hjl; cases hjl)]
      exact p3 j o' hj hjo hh hjl
     ·have := (p5 n c hf).2
      simp only [find]
      rw [if_neg (fun e => by have := beq_len e; omega)]
      exact hf
     ·by_cases hji : j = i
      ·subst hji
       rw [e] at hf
       simp only [find] at hf
       rw [if_pos (Nat.beq_refl _)] at hf
       cases hf
       refine hW1.apart fun n c hf => ?_
       simp only [find] at hf ⊢
       split at hf
       ·rename_i hq
        rw [if_pos hq]
        cases hf
        exact ⟨rfl, rfl⟩
       ·cases hf
      ·rw [getD_set hiL, if_neg hji] at hL
       exact lates (Nat.le_refl p) p4 (fun n c hf => (p5 n c hf).2) hx hb j c hj hjs hjl hL hf
    | false =>
     cases hl : isLight o with
     | true =>
      obtain ⟨v0, v, q1, q2, e⟩ := hlight rfl hlt hl
      have hWR : WRel B w0 ρ R (st p).nx w := p4.join J.rr fun n b hf => .inl hf
      obtain ⟨x, hr, hv⟩ := opStep_sound hg hWR q1
      unfold Oper.wp
      rw [hr]
      have hT : (st (i + 1)).T = putT (st i).T o.dst v := by rw [e]
      exact ih _ ρ _ w (J.next F hd ho hpre hT (part_spec q2 hv) (Ext.refl ρ) J.rr resKeep (stay hl)) hcnt
     | false =>
      obtain ⟨s1, fr, hfr, q1, k1, k2, k3, e⟩ := hheavy rfl hlt hl
      obtain ⟨hW, g2, g3, g4, g5, g6⟩ := go hl hlt
      have hpi := hpi hl
      have hWf : WRel B w0 ρ (fr ++ (st i).H) (st i).nx w := hW.joinF J.rr fun n c hf => by
       rw [find_append] at hf
       cases hq : find fr n with
       | some d =>
        rw [hq] at hf
        simp at hf
        subst hf
        obtain ⟨d', m1, m2⟩ := hfr n d hq
        rw [m2]
        exact .inl ⟨d', m1, rfl, rfl, rfl, fun h => by cases h⟩
       | none => rw [hq] at hf; exact .inr (by simpa using hf)
      have hs : StRel (footOf ρ (fr ++ (st i).H) w) w ρ { st i with T := maskT (Oper.looksAt ops o) 0 (st i).T, H := fr ++ (st i).H } a w := ⟨hWf.foot, hmask, J.defers⟩
      refine opS_sound hrec (Nat.le_refl _) (fun w1 hb1 => hI w1 (hWf.below.trans (hWf.foot_below hB hb1))) hM hS q1 hs fun ρ' x w' hx hs' => ?_
      have hT : (st (i + 1)).T = putT (st i).T o.dst (slotOf s1.T o.dst) := by rw [e]
      have hv : VRel ρ' (slotOf s1.T o.dst) x := by
       cases hdst : o.dst with
       | none => trivial
       | some d =>
        simp only [slotOf]
        cases hs1 : s1.T[d]? with
        | none => simp only [List.getD, hs1, Option.getD_none]; trivial
        | some sv =>
         simp only [List.getD, hs1, Option.getD_some]
         obtain ⟨u, hu, hr⟩ := hs'.tmps.get hs1
         have hlen : d < (a.put o.dst x).tmps.size := by
          have := (List.getElem?_eq_some_iff.1 hu).1
          simpa using this
         have : u = x := by
          rw [hdst] at hu hlen
          simp only [Act.put] at hu hlen
          have hl2 : d < a.tmps.size := by simpa using hlen
          simp [hl2] at hu
          exact hu.symm
         rw [← this]
         exact hr
      have hb' : BelowF (footOf ρ (st i).H w) w w' := hs'.below.mono fun y hy => foot_froz hfr y hy
      have hx' := cut_ext hx (base + i) (base + ops.size)
      have hv' : VRel (cutRho ρ ρ' (base + i) (base + ops.size)) (slotOf s1.T o.dst) x := VRel.turn (ρ := ρ') (ρ' := cutRho ρ ρ' (base + i) (base + ops.size)) rfl (fun n hn => cut_out (okNs_mem k1 hn)) hv
      have hW' : WRel B w0 (cutRho ρ ρ' (base + i) (base + ops.size)) (dropR R s1.H) s1.nx w' := ((hWf.unfoot hB hs'.toWRel).sub fun n c hf => (find_dropR hf).1).cut hx k2 k3
      refine ih _ _ _ w' (J.next F hd ho hpre hT hv' hx' (J.rr.keep hW (fun n c hf => (g2 n c hf).1) hx' hb') (fun j hj hjl hne hL => ?_) ⟨i + 1, by omega, g5, g6, ?_, ?_, ?_, fun j c hj hjs hjl hL hf => ?_⟩) hcnt
      ·have hji : i ≤ j := by
        rcases Nat.lt_or_ge j i with h | h
        ·rw [g4 j h hjl] at hL; cases hL
        ·exact h
       obtain ⟨m1, m2⟩ := cut_in (ρ := ρ) (ρ' := ρ') (b0 := base + i) (b1 := base + ops.size) (n := base + j) (by omega) (by omega)
       rw [m1, m2]
       exact J.res j hj hjl hL
      ·rw [e]; exact hW'
      ·rw [e]
       intro n c hf
       refine ⟨(find_dropR hf).2, ?_⟩
       have := List.all_eq_true.1 k2 _ (find_mem hf)
       simp only [Bool.and_eq_true] at this
       have := okNs_mem this.1 (n := n) (by simp)
       omega
      ·rw [e]; exact k3
      ·rw [getD_set hiL, if_neg (by omega)] at hL
       exact lates (by omega : p ≤ i) hW (fun n c hf => (g2 n c hf).2) hx' hb' j c (by omega) hjs hjl hL hf
end
theorem evDraw_any {P : Program} {I : World → Prop} {rec : Rec} (hrec : RecOK P I rec) {B : Foot} {w0 : World} (hB : B.base ≤ w0.heap.size) (hI : ∀ w, BelowF B w0 w → I w) {M : Env} (hM : MOK P I M) {S : List Sum} (hS : ∀ c ∈ S, SumOK P I c) {ops : Array Oper} (hok : drawOK P ops = true) {s s' : St}
 (h : (evDraw M rec P S ops s).den = some s') {ρ : Rho} {a : Act} {w : World} (hs : StRel B w0 ρ s a w) {Q : Exit → Act → World → Prop} (hQ : ∀ ρ' a' w', Ext ρ ρ' → StRel B w0 ρ' s' a' w' → Q .normal a' w') : wpAny P .any ops Q ops.size (Array.replicate ops.size false) a w.drew := by
 simp only [drawOK, Bool.and_eq_true] at hok
 obtain ⟨⟨-, hd⟩, hh⟩ := hok
 unfold evDraw at h
 split at h
 ·rename_i fl hc
  obtain ⟨s2, h1, h2⟩ := den_bind_some h
  simp [Tree.den] at h2
  obtain ⟨st, e0, en, ht⟩ := traceC_of (late := fun k => fl.getD k false) ops.toList 0 (fun k => by simp) h1
  simp only [Nat.zero_add, Array.length_toList] at en
  have F : ∀ i o, ops[i]? = some o → FactC M rec P S ops (partH (lightN s.T ops.toList) s.H true) s.nx (fun k => fl.getD k false) i o (st i) (st (i + 1)) := fun i o ho => by
   have := ht i o (by simpa using ho)
   simpa only [Nat.zero_add] using this
  have spec := fun i o (ho : ops[i]? = some o) => chainF_spec hc i o (by simpa using ho)
  have sub : ∀ q n b, find (partH (lightN s.T ops.toList) s.H q) n = some b → find s.H n = some b ∧ (inRn (lightN s.T ops.toList) s.H n == q) = true := fun q n b hf => by
   rw [find_part] at hf
   split at hf
   ·rename_i hq; exact ⟨hf, hq⟩
   ·cases hf
  have hR : RRel B ρ (partH (lightN s.T ops.toList) s.H true) w.drew := hs.toWRel.drew.apart fun n b hf => by
   obtain ⟨q1, q2⟩ := sub true n b hf
   refine ⟨q1, ?_⟩
   simp only [beq_iff_eq] at q2
   unfold inRn at q2
   rw [q1] at q2
   simp only [Bool.and_eq_true] at q2
   simpa using q2.2
  have hX : WRel B w0 ρ (partH (lightN s.T ops.toList) s.H false) (s.nx + ops.size) w.drew := by
   have W := hs.toWRel.drew.sub fun n b hf => (sub false n b hf).1
   exact ⟨W.mem, W.ext, W.below, fun n hn => W.fresh n (by omega), fun n hn => W.fra n (by omega), fun n b hf => by have := W.names n b hf; omega⟩
  have hdis : ∀ n b, find (partH (lightN s.T ops.toList) s.H false) n = some b → find (partH (lightN s.T ops.toList) s.H true) n = none := fun n b hf => by
   have := (sub false n b hf).2
   rw [find_part]
   simp only [beq_iff_eq] at this
   simp [this]
  refine JC.any hrec hB hI hM hS F (fun i o ho hl => (spec i o ho).1 hl) hd hh (fun n b hf => hs.names n b (sub true n b hf).1) (fun i o ho hl hlt j o' hj hjo hjl => by
   have := ((spec i o ho).2 hl hlt).2 j o' hj (by simpa using hjo) hjl
   simpa only [Nat.zero_add] using this) (ρ0 := ρ) (fun ρ' a' w' hx hs' => hQ ρ' a' w' hx (by rw [← h2, ← en]; exact hs')) ops.size _ ρ a _ ⟨Ext.refl ρ, by simp, fun k o hk hL => ?_, ?_, fun j o t sv hj hdst hL => ?_, fun t sv hn ht => ?_, hs.defers, hR, fun j hj hjl hL => ⟨hs.fresh _ (by omega), hs.fra _ (by omega)⟩, 0, Nat.zero_le _, fun j o hj => by omega, fun j o hj hjo hl hjt => ?_, by rw [e0]; exact hX, fun n b hf => ?_, by rw [e0]; exact Nat.le_refl _, fun j b hj hjs hjl hL => ?_⟩ (cnt_le _ _)
  ·simp [Array.getD] at hL
  ·have := hs.tmps.length
   rw [e0]
   simpa using this.symm
  ·simp [Array.getD] at hL
  ·rw [e0] at ht
   obtain ⟨v, hv, hr⟩ := hs.tmps.get ht
   exact ⟨v, by simpa using hv, hr⟩
  ·simp [Array.getD]
  ·rw [e0] at hf
   have := hs.names n b (sub false n b hf).1
   exact ⟨hdis n b hf, .inl (by omega)⟩
  ·simp [Array.getD] at hL
 ·simp [Tree.den] at h
end Go.Proofs.YtdioaiepkhepaaaGreatDoor
namespace Go.Proofs.YtdioaiepkhepaaaGreatDoor
open Go.RowKit
theorem drawS_any {P : Program} {I : World → Prop} {rec : Rec} (hrec : RecOK P I rec) {B : Foot} {w0 : World} (hB : B.base ≤ w0.heap.size) (hI : ∀ w, BelowF B w0 w → I w) {M : Env} (hM : MOK P I M) {S : List Sum} (hS : ∀ c ∈ S, SumOK P I c) {ops : Array Oper} (hok : drawOK P ops = true) {s s' : St}
 (h : (drawS M rec P S ops s).den = some s') {ρ : Rho} {a : Act} {w : World} (hs : StRel B w0 ρ s a w) {Q : Exit → Act → World → Prop} (hQ : ∀ ρ' a' w', Ext ρ ρ' → StRel B w0 ρ' s' a' w' → Q .normal a' w') : wpAny P .any ops Q ops.size (Array.replicate ops.size false) a w.drew := by
 unfold drawS at h
 split at h
 ·exact evDraw_any hrec hB hI hM hS hok h hs hQ
 ·obtain ⟨⟨s1, as⟩, h1, h2⟩ := den_bind_some h
  simp only at h2
  split at h2
  ·rename_i hacc
   simp [Tree.den] at h2
   subst h2
   exact draw_any hB hI hM hS hok h1 hacc hs hQ
  ·simp [Tree.den] at h2
theorem getD_push {L : Array Bool} {b d : Bool} {i : Nat} : (L.push b).getD i d = if i < L.size then L.getD i d else if i = L.size then b else d := by
 simp only [Array.getD, Array.size_push]
 split
 ·split
  ·rename_i h1 h2
   simp [Array.getElem_push, h2]
  ·rename_i h1 h2
   have : i = L.size := by omega
   subst this
   simp
 ·split
  ·omega
  ·rw [if_neg (by omega)]
theorem push_set {L : Array Bool} {i : Nat} (h : i < L.size) : (L.push false).setIfInBounds i true = (L.setIfInBounds i true).push false := by
 apply Array.ext_getElem?
 intro j
 simp only [Array.getElem?_setIfInBounds, Array.getElem?_push, Array.size_setIfInBounds, Array.size_push]
 by_cases e : i = j
 ·subst e
  rw [if_pos rfl, if_pos (by omega), if_neg (by omega), if_pos rfl, if_pos h]
 ·rw [if_neg e, if_neg e]
theorem wpOp_other {P : Program} {ops ops' : Array Oper} {Q Q' : Exit → Act → World → Prop} (hq : ∀ x a w, x ≠ .normal → Q' x a w → Q x a w) {i : Nat} (ho : ops[i]? = ops'[i]?) (hy : ∀ (a : Act) o, ops[i]? = some o → Region.wanted o (yielded ops a.tmps) = Region.wanted o (yielded ops' a.tmps))
 {K K' : Act → World → Prop} (hk : ∀ a w, K' a w → K a w) {a : Act} {w : World} (h : wpOp P ops' Q' i K' a w) : wpOp P ops Q i K a w := by
 have lets : LetsOut Q' → LetsOut Q := fun hl => by
  obtain ⟨a, w, h⟩ := hl
  exact ⟨a, w, hq _ _ _ (by intro e; cases e) h⟩
 unfold wpOp at *
 rw [← ho] at h
 cases hoi : ops[i]? with
 | none => rw [hoi] at h; exact hk _ _ h
 | some o =>
  rw [hoi] at h
  simp only at h ⊢
  rw [hy a o hoi]
  split
  ·rename_i hw
   rw [if_pos hw] at h
   rcases h with h | ⟨h1, h2⟩
   ·left
    unfold Oper.wp at *
    generalize (execOp a.eval o).run P w = r at *
    cases r with
    | ok n w' =>
     cases n <;> simp only [Oper.upon] at h ⊢ <;>
      first
       | exact hk _ _ h
       | exact Calls.mono h (fun e w'' he => by cases e <;> first | exact hk _ _ he | exact hq _ _ _ (by intro e; cases e) he | exact lets he)
       | exact Rows.mono h (fun _ _ he => hk _ _ he)
    | halt x w' => cases x <;> simp only [Oper.upon] at h ⊢ <;> first | exact h | exact hq _ _ _ (by intro e; cases e) h
   ·exact .inr ⟨h1, lets h2⟩
  ·rename_i hw
   rw [if_neg hw] at h
   exact hk _ _ h
theorem wpAny_all {P : Program} {ops : Array Oper} {Q : Exit → Act → World → Prop} {L : Array Bool} (hl : ∀ i, i < ops.size → L.getD i true = true) {a : Act} {w : World} (h : Q .normal a w) : ∀ fuel, wpAny P .any ops Q fuel L a w := by
 have hr : Region.ready .any ops L = [] := by
  cases hr : Region.ready .any ops L with
  | nil => rfl
  | cons j js =>
   have hj : j ∈ Region.ready .any ops L := by rw [hr]; simp
   obtain ⟨h1, o, ho, _⟩ := mem_ready.1 hj
   rw [hl j (Array.getElem?_eq_some_iff.1 ho).1] at h1
   cases h1
 intro fuel
 cases fuel with
 | zero => exact ⟨hr, h⟩
 | succ n => exact ⟨fun _ => h, fun i hi => by rw [hr] at hi; cases hi⟩
section
variable {P : Program} {ops : Array Oper} {Q : Exit → Act → World → Prop} {N : Nat} (hN : ops.size = N + 1) (hh : hangs (ops.toList.map (·.dst)) ops (masks [] ops.toList) 0 [] ops.toList = true)
 (hcov : ∀ j, j < N → ((masks [] ops.toList).getD N 0).testBit j = true) (hg : ∀ i o, i < N → ops[i]? = some o → ∀ j b, o.guard = some (j, b) → j < N)
include hN hh hcov hg
def lastQ (P : Program) (ops : Array Oper) (Q : Exit → Act → World → Prop) (N : Nat) : Exit → Act → World → Prop
 | .normal, a, w => wpOp P ops Q N (Q .normal) a w
 | x, a, w => Q x a w
theorem split_any : ∀ (fuel : Nat) (L : Array Bool) (a : Act) (w : World), L.size = N → (∀ k o, ops[k]? = some o → k < N → L.getD k false = true → ∀ e ∈ o.after, Region.binds .any e = true → L.getD e.on false = true) →
 wpAny P .any ops.pop (lastQ P ops Q N) fuel L a w → wpAny P .any ops Q (fuel + 1) (L.push false) a w := by
 have back : ∀ k o, ops[k]? = some o → ∀ e ∈ o.after, Region.binds .any e = true → e.on < k := fun k o hk e he hb => by
  have := (hangs_spec (D := fun _ => True) hh rfl (fun _ _ _ h => by simp at h) (fun _ _ _ _ _ _ _ => trivial) k o (by simpa using hk)).1 e he hb
  simpa using this
 have hpop : ∀ i, i < N → ops.pop[i]? = ops[i]? := fun i hi => by
  rw [Array.getElem?_pop]
  rw [if_pos (by omega)]
 have hps : ops.pop.size = N := by simp [hN]
 have gtrue : ∀ (L : Array Bool) (j : Nat), L.size = N → j < N → L.getD j true = L.getD j false := fun L j hl hj => by
  have : j < L.size := by omega
  simp [Array.getD, this]
 have pl : ∀ (L : Array Bool) (j : Nat) (d : Bool), L.size = N → j < N → (L.push false).getD j d = L.getD j d := fun L j d hl hj => by rw [getD_push, if_pos (by omega)]
 have pN : ∀ (L : Array Bool) (d : Bool), L.size = N → (L.push false).getD N d = false := fun L d hl => by rw [getD_push, if_neg (by omega), if_pos hl.symm]
 have rd : ∀ (L : Array Bool) (i : Nat), L.size = N → i < N → (i ∈ Region.ready .any ops (L.push false) ↔ i ∈ Region.ready .any ops.pop L) := fun L i hl hi => by
  rw [mem_ready, mem_ready, pl L i true hl hi, hpop i hi]
  constructor
  ·rintro ⟨h1, o, ho, h2⟩
   refine ⟨h1, o, ho, fun e he hb => ?_⟩
   have := h2 e he hb
   rwa [pl L e.on false hl (by have := back i o ho e he hb; omega)] at this
  ·rintro ⟨h1, o, ho, h2⟩
   refine ⟨h1, o, ho, fun e he hb => ?_⟩
   rw [pl L e.on false hl (by have := back i o ho e he hb; omega)]
   exact h2 e he hb
 have alld : ∀ (L : Array Bool), L.size = N → Region.ready .any ops.pop L = [] → ∀ j, j < N → L.getD j false = true := fun L hl hr j hj => by
  have key : ∀ n j, j < n → j < N → L.getD j false = true := by
   intro n
   induction n with
   | zero => intro j hj; omega
   | succ n ihn =>
    intro j hj hjs
    cases hL : L.getD j false with
    | true => rfl
    | false =>
     exfalso
     have ho : ops[j]? = some (ops[j]'(by omega)) := Array.getElem?_eq_getElem (by omega)
     have hmem : j ∈ Region.ready .any ops.pop L := mem_ready.2 ⟨by rw [gtrue L j hl hjs]; exact hL, _, by rw [hpop j hjs]; exact ho, fun e he hb => by
      have := back j _ ho e he hb
      exact ihn e.on (by omega) (by omega)⟩
     rw [hr] at hmem
     cases hmem
  exact key (j + 1) j (by omega) hj
 have lastd : ∀ (L : Array Bool), L.size = N → (∀ k o, ops[k]? = some o → k < N → L.getD k false = true → ∀ e ∈ o.after, Region.binds .any e = true → L.getD e.on false = true) → N ∈ Region.ready .any ops (L.push false) → ∀ j, j < N → L.getD j false = true := fun L hl hdown hmem j hj => by
  obtain ⟨_, oN, hoN, hafter⟩ := mem_ready.1 hmem
  have hin := masks_in (D := fun k => k = N ∨ (k < N ∧ L.getD k false = true)) (l := ops.toList) (acc := []) (fun _ _ _ h => by simp at h) (fun k o hk hD e he hb => by
   have hk : ops[k]? = some o := by simpa using hk
   simp only [List.length_nil, Nat.zero_add] at hD
   rcases hD with rfl | ⟨hlt, hD⟩
   ·rw [hoN] at hk
    cases hk
    have h1 := back k _ hoN e he hb
    have h2 := hafter e he hb
    rw [pl L e.on false hl h1] at h2
    exact .inr ⟨h1, h2⟩
   ·have h1 := back k _ hk e he hb
    exact .inr ⟨by omega, hdown k o hk hlt hD e he hb⟩)
  have hb := hcov j hj
  cases hq : (masks [] ops.toList)[N]? with
  | none => simp [List.getD, hq] at hb
  | some q =>
   simp [List.getD, hq] at hb
   rcases hin N q j hq (.inl rfl) hb with h | ⟨_, h⟩
   ·omega
   ·exact h
 have wy : ∀ i, i < N → ∀ (a : Act) o, ops[i]? = some o → Region.wanted o (yielded ops a.tmps) = Region.wanted o (yielded ops.pop a.tmps) := fun i hi a o ho => by
  unfold Region.wanted
  cases hgo : o.guard with
  | none => rfl
  | some p =>
   obtain ⟨j, b⟩ := p
   have := hg i o hi ho j b hgo
   simp only [yielded, hpop j this]
 have qo : ∀ x a w, x ≠ Exit.normal → lastQ P ops Q N x a w → Q x a w := fun x a w hx h => by
  cases x <;> first | exact absurd rfl hx | exact h
 have fin : ∀ (L : Array Bool) (a : Act) (w : World) (fuel : Nat), L.size = N → (∀ j, j < N → L.getD j false = true) → lastQ P ops Q N .normal a w → wpOp P ops Q N (wpAny P .any ops Q fuel ((L.push false).setIfInBounds N true)) a w := fun L a w fuel hl hall h => by
  refine wpOp_mono (fun a w hq => wpAny_all (fun i hi => ?_) hq fuel) h
  have hs : ((L.push false).setIfInBounds N true).size = N + 1 := by simp [hl]
  have hi2 : i < ((L.push false).setIfInBounds N true).size := by omega
  have e : ((L.push false).setIfInBounds N true).getD i true = ((L.push false).setIfInBounds N true).getD i false := by simp only [Array.getD, hi2, dite_true]
  rw [e, getD_set (by simp [hl])]
  split
  ·rfl
  ·rw [pl L i false hl (by omega)]
   exact hall i (by omega)
 intro fuel
 induction fuel with
 | zero =>
  intro L a w hl hdown ⟨hr, hq⟩
  have hall := alld L hl hr
  have hNr : N ∈ Region.ready .any ops (L.push false) := mem_ready.2 ⟨pN L true hl, _, Array.getElem?_eq_getElem (by omega), fun e he hb => by
   have := back N _ (Array.getElem?_eq_getElem (by omega)) e he hb
   rw [pl L e.on false hl this]
   exact hall _ this⟩
  refine ⟨fun h => absurd hNr (by rw [h]; exact List.not_mem_nil), fun i hi => ?_⟩
  rcases Nat.lt_or_ge i N with h | h
  ·rw [rd L i hl h, hr] at hi
   cases hi
  ·obtain ⟨_, o, ho, _⟩ := mem_ready.1 hi
   have := (Array.getElem?_eq_some_iff.1 ho).1
   have : i = N := by omega
   subst this
   exact fin L a w 0 hl hall hq
 | succ fuel ih =>
  intro L a w hl hdown ⟨h0, h1⟩
  refine ⟨fun h => ?_, fun i hi => ?_⟩
  ·exfalso
   have hr : Region.ready .any ops.pop L = [] := by
    cases hr : Region.ready .any ops.pop L with
    | nil => rfl
    | cons j js =>
     have hj : j ∈ Region.ready .any ops.pop L := by rw [hr]; simp
     obtain ⟨_, o, ho, _⟩ := mem_ready.1 hj
     have hjN : j < N := by have := (Array.getElem?_eq_some_iff.1 ho).1; omega
     rw [← rd L j hl hjN, h] at hj
     cases hj
   have hall := alld L hl hr
   have hNr : N ∈ Region.ready .any ops (L.push false) := mem_ready.2 ⟨pN L true hl, _, Array.getElem?_eq_getElem (by omega), fun e he hb => by
    have := back N _ (Array.getElem?_eq_getElem (by omega)) e he hb
    rw [pl L e.on false hl this]
    exact hall _ this⟩
   rw [h] at hNr
   cases hNr
  ·rcases Nat.lt_or_ge i N with h | h
   ·have hi' := (rd L i hl h).1 hi
    obtain ⟨_, o, ho, hpre⟩ := mem_ready.1 hi'
    rw [hpop i h] at ho
    rw [push_set (by omega)]
    refine wpOp_other qo (hpop i h).symm (wy i h) (fun a w hk => ih _ a w (by simp [hl]) (fun k o' hk' hkN hL e he hb => ?_) hk) (h1 i hi')
    rw [getD_set (by omega)] at hL ⊢
    split
    ·rfl
    ·split at hL
     ·rename_i e2
      subst e2
      rw [ho] at hk'
      cases hk'
      exact hpre e he hb
     ·exact hdown k o' hk' hkN hL e he hb
   ·obtain ⟨_, o, ho, _⟩ := mem_ready.1 hi
    have := (Array.getElem?_eq_some_iff.1 ho).1
    have : i = N := by omega
    subst this
    have hall := lastd L hl hdown hi
    refine fin L a w (fuel + 1) hl hall (h0 ?_)
    cases hr : Region.ready .any ops.pop L with
    | nil => rfl
    | cons j js =>
     have hj : j ∈ Region.ready .any ops.pop L := by rw [hr]; simp
     obtain ⟨q1, o', ho', _⟩ := mem_ready.1 hj
     have hjN : j < i := by have := (Array.getElem?_eq_some_iff.1 ho').1; omega
     rw [gtrue L j hl hjN, hall j hjN] at q1
     cases q1
end
theorem last_sound {P : Program} {I : World → Prop} {rec : Rec} (hrec : RecOK P I rec) {B : Foot} {w0 : World} (hB : B.base ≤ w0.heap.size) (hI : ∀ w, BelowF B w0 w → I w) {M : Env} (hM : MOK P I M) {S : List Sum} (hS : ∀ c ∈ S, SumOK P I c) {ops : Array Oper} {id : Nat} (hl : lastOK P ops = true) {s s1 s' : St}
 (h : (drawS M rec P S ops.pop s).den = some s1) (h2 : (evOps M rec P S ops (ops.size - 1) (ops.toList.drop (ops.size - 1)) s1).den = some s') {ρ : Rho} {a : Act} {w : World} (hs : StRel B w0 ρ s a w) {Q : Exit → Act → World → Prop} (hQ : ∀ ρ' a' w', Ext ρ ρ' → StRel B w0 ρ' s' a' w' → Q .normal a' w') : (Code.region id ops true).wp P Q a w := by
 unfold lastOK at hl
 split at hl
 ·rename_i o hback
  simp only [Bool.and_eq_true] at hl
  obtain ⟨⟨⟨⟨_, hok⟩, hokp⟩, hcov⟩, hgd⟩ := hl
  have hok0 := hok
  simp only [drawOK, Bool.and_eq_true] at hok
  obtain ⟨⟨hmix, hd⟩, hh⟩ := hok
  have hpos : 0 < ops.size := by
   rcases Nat.eq_zero_or_pos ops.size with e | e
   ·have : ops = #[] := Array.eq_empty_of_size_eq_zero e
    subst this
    simp at hback
   ·exact e
  obtain ⟨N, hN⟩ : ∃ N, ops.size = N + 1 := ⟨ops.size - 1, by omega⟩
  rw [hN, Nat.add_sub_cancel] at hcov hgd h2
  have hoN : ops[N]? = some o := by
   have := Array.back?_eq_getElem? (xs := ops)
   rw [hback, hN, Nat.add_sub_cancel] at this
   exact this.symm
  have hdrop : ops.toList.drop N = [o] := by
   have hlen : ops.toList.length = N + 1 := by simp [hN]
   have e : ops.toList[N]? = some o := by simpa using hoN
   obtain ⟨hlt, he⟩ := List.getElem?_eq_some_iff.1 e
   rw [List.drop_eq_getElem_cons hlt, he, List.drop_eq_nil_of_le (by omega)]
  refine wp_region_any hmix ?_
  have hrep : Array.replicate ops.size false = (Array.replicate N false).push false := by rw [hN, Array.replicate_succ]
  rw [hrep, hN]
  refine split_any hN hh (fun j hj => List.all_eq_true.1 hcov j (List.mem_range.2 hj)) (fun i oi hi hoi j b hgo => ?_) N _ a _ (by simp) (fun k o' _ _ hL => by simp [Array.getD] at hL) ?_
  ·have hm : oi ∈ ops.pop.toList := by
    have : ops.pop[i]? = some oi := by rw [Array.getElem?_pop, if_pos (by omega)]; exact hoi
    exact List.mem_of_getElem? (i := i) (by rw [Array.getElem?_toList]; exact this)
   have := List.all_eq_true.1 hgd oi hm
   rw [hgo] at this
   exact Nat.le_of_ble_eq_true this
  ·have := drawS_any hrec hB hI hM hS hokp h hs (Q := lastQ P ops Q N) (fun ρ1 a1 w1 hx1 hs1 => ?_)
   ·simpa [hN] using this
   ·show wpOp P ops Q N (Q .normal) a1 w1
    rw [hdrop] at h2
    simp only [evOps] at h2
    unfold wpOp
    simp only [hoN]
    split at h2
    ·simp [Tree.den] at h2
    ·rename_i hw
     have hw := wantS_spec hs1.tmps hw
     simp [Tree.den] at h2
     subst h2
     rw [hw]
     exact hQ ρ1 _ w1 hx1 ⟨hs1.toWRel, put_tmps hs1.tmps undef_rel o.dst, put_defers _ _ hs1.defers⟩
    ·rename_i hw
     have hw := wantS_spec hs1.tmps hw
     obtain ⟨s2, h3, h4⟩ := den_bind_some h2
     simp [Tree.den] at h4
     subst h4
     rw [hw]
     simp only [if_true]
     exact .inl (opS_sound hrec hB hI hM hS h3 hs1 fun ρ' _ w' hx hs' => hQ ρ' _ w' (hx1.trans hx) hs')
 ·cases hl
end Go.Proofs.YtdioaiepkhepaaaGreatDoor
namespace Go.Proofs.YtdioaiepkhepaaaGreatDoor
open Go.RowKit
theorem fin_br {s s' : St} {dst : Option Nat} {u : Bool} {r : Res} (h : (fin s dst u r).den = some s') : s'.br = s.br := by
 cases r with
 | val v =>
  simp only [fin] at h
  obtain ⟨v', _, h4⟩ := den_bind_some h
  simp [Tree.den] at h4
  rw [← h4]
 | _ => simp [fin, Tree.den] at h; rw [← h]
theorem opS_br {M : Env} {rec : Rec} {P : Program} {S : List Sum} {u : Bool} {o : Oper} {s s' : St} (h : (opS M rec P S u o s).den = some s') : s'.br = s.br := by
 unfold opS at h
 split at h
 ·split at h
  ·obtain ⟨r, _, h2⟩ := den_bind_some h
   obtain ⟨v, _, h4⟩ := den_bind_some h2
   simp [Tree.den] at h4
   rw [← h4]
  ·simp [Tree.den] at h
 ·obtain ⟨r, _, h2⟩ := den_bind_some h
  exact fin_br h2
theorem evOps_br {M : Env} {rec : Rec} {P : Program} {S : List Sum} {ops : Array Oper} : ∀ {l : List Oper} {i : Nat} {s s' : St}, (evOps M rec P S ops i l s).den = some s' → s'.br = s.br
 | [], _, s, s', h => by simp [evOps, Tree.den] at h; rw [← h]
 | o :: l, i, s, s', h => by
  simp only [evOps] at h
  split at h
  ·simp [Tree.den] at h
  ·exact evOps_br (s := { s with T := putT s.T o.dst undefS }) h
  ·obtain ⟨s1, h1, h2⟩ := den_bind_some h
   rw [evOps_br h2, opS_br h1]
theorem evD_br {M : Env} {rec : Rec} {P : Program} {S : List Sum} {ops : Array Oper} : ∀ {l : List Oper} {i : Nat} {s s' : St} {as as' : List (Option Nat)}, (evD M rec P S ops i l s as).den = some (s', as') → s'.br = s.br
 | [], _, s, s', _, _, h => by simp [evD, Tree.den] at h; rw [← h.1]
 | o :: l, i, s, s', _, _, h => by
  simp only [evD] at h
  split at h
  ·simp [Tree.den] at h
  ·exact evD_br (s := { s with T := putT s.T o.dst undefS }) h
  ·split at h
   ·obtain ⟨s1, h1, h2⟩ := den_bind_some h
    rw [evD_br h2, opS_br h1]
   ·simp [Tree.den] at h
theorem evDraw_br {M : Env} {rec : Rec} {P : Program} {S : List Sum} {ops : Array Oper} {s s' : St} (h : (evDraw M rec P S ops s).den = some s') : s'.br = s.br := by
 unfold evDraw at h
 split at h
 ·obtain ⟨s2, h1, h2⟩ := den_bind_some h
  simp [Tree.den] at h2
  rw [← h2]
  have q := evC_br (fun h => opS_br h) h1
  exact q
 ·simp [Tree.den] at h
theorem drawS_br {M : Env} {rec : Rec} {P : Program} {S : List Sum} {ops : Array Oper} {s s' : St} (h : (drawS M rec P S ops s).den = some s') : s'.br = s.br := by
 unfold drawS at h
 split at h
 ·exact evDraw_br h
 ·obtain ⟨⟨s1, as⟩, h1, h2⟩ := den_bind_some h
  simp only at h2
  split at h2
  ·simp [Tree.den] at h2
   subst h2
   exact evD_br h1
  ·simp [Tree.den] at h2
theorem sub_loops {c b : Code} (h : Sub c b) : ∀ a ∈ loopsC c, a ∈ loopsC b := by
 induction h with
 | refl c => exact fun a h => h
 | seqL _ ih => exact fun a h => ih a (by simp only [loopsC]; exact List.mem_append_left _ h)
 | seqR _ ih => exact fun a h => ih a (by simp only [loopsC]; exact List.mem_append_right _ h)
 | condL _ ih => exact fun a h => ih a (by simp only [loopsC]; exact List.mem_append_left _ h)
 | condR _ ih => exact fun a h => ih a (by simp only [loopsC]; exact List.mem_append_right _ h)
 | block _ ih => exact fun a h => ih a (by simp only [loopsC]; exact h)
 | loop _ ih => exact fun a h => ih a (by simp only [loopsC]; exact List.mem_cons_of_mem _ h)
 | scope _ ih => exact fun a h => ih a (by simp only [loopsC]; exact h)
def LoopTrue0 (P : Program) (I : World → Prop) (c : LoopC) : Prop :=
 (loopsBy P c.f c.key).length = 1 ∧ ∀ xs, KindsL c.head.kinds xs → c.pre xs = true →
   ∀ (B : Foot) (w0 : World) (ρ : Rho) (a : Act) (w : World) (Q : Exit → Act → World → Prop), B.base ≤ w0.heap.size → (∀ w, BelowF B w0 w → I w) → StRel B w0 ρ (headS c xs) a w →
    (∀ (i : Nat) (o : Xt × Shp × Nat) (ys : List Value) ρ' a' w', c.outs[i]? = some o → c.F xs = .int .i64 (i : Nat) :: ys → KindsL o.2.1.kinds ys → (∀ mk j, Fits mk j o.2.1.kinds ys → StRel B w0 ρ' (o.2.1.inst (fun n => n) mk j o.2.2) a' w') → Q o.1.to a' w') → (Code.loop (loopAt P c.f c.key)).wp P Q a w
def LoopTrue (P : Program) (I : World → Prop) (c : LoopC) : Prop := (c.key ≠ 99999 → LoopTrue0 P I c) ∧ (c.key = 99999 → BodyTrue P I c)
theorem loop_code {P : Program} {f : FuncId} {a : Code} {key : Nat} (hs : Sub (.loop a) (bodyC P f)) (hk : keyC a = key) (hl : (loopsBy P f key).length = 1) : a = loopAt P f key := by
 have hm : a ∈ loopsBy P f key := by
  unfold loopsBy at hl ⊢
  split at hl
  ·simp at hl
  rename_i hk9
  rw [if_neg hk9, List.mem_filter]
  exact ⟨sub_loops hs a (by simp only [loopsC]; exact List.mem_cons_self), by rw [hk]; exact Nat.beq_refl _⟩
 unfold loopAt
 match h : loopsBy P f key, hl with
 | [b], _ => rw [h] at hm; simpa using hm
theorem exits_den {c : LoopC} {xs : List SE} {i : Nat} {ys : List Value} (hF : c.F (denL xs) = .int .i64 i :: ys) {o : Xt × Shp × Nat} {r : Xt × St} : ∀ {l : List (Xt × Shp × Nat)} {k : Nat}, k ≤ i → l[i - k]? = some o → (exitsS c xs k l).den = some r → r = (o.1, o.2.1.inst (fun n => n) (fun j κ => .app (1000000000 + 100000 * c.f + c.key) c.F j κ xs) 1 o.2.2)
 | [], _, _, h, _ => by simp at h
 | [p], k, hk, ho, h => by
  simp only [exitsS, Tree.den, Option.some.injEq] at h
  have : i - k = 0 := by
   have := (List.getElem?_eq_some_iff.1 ho).1
   simp at this
   omega
  rw [this] at ho
  simp at ho
  subst ho
  exact h.symm
 | p :: q :: l, k, hk, ho, h => by
  simp only [exitsS, Tree.den, SE.den, isX, hF] at h
  change (bif tru (Value.bool (decide ((i : Int) = (k : Int)))) then _ else _) = _ at h
  by_cases e : i = k
  ·subst e
   simp [tru] at h ho
   subst ho
   exact h.symm
  ·have e' : ¬ ((i : Int) = (k : Int)) := by omega
   simp only [e', decide_false, tru, cond_false] at h
   refine exits_den hF (k := k + 1) (by omega) ?_ h
   rw [show i - k = (i - (k + 1)) + 1 by omega] at ho
   simpa using ho
structure EnvOK (P : Program) (I : World → Prop) (M : Env) : Prop where
 sums : ∀ c ∈ M.cs, CSumOK P I c
 loops : ∀ c ∈ M.ls, LoopTrue P I c
theorem EnvOK.mok {P : Program} {I : World → Prop} {M : Env} (h : EnvOK P I M) : MOK P I M := ⟨h.sums, fun c hc hk => (h.loops c hc).2 hk⟩
def LoopOK (P : Program) (I : World → Prop) (M : Env) (m : Nat) (rec : Rec) : Prop :=
 ∀ f c1 s x s', Sub (.loop c1) (bodyC P f) → findL M.ls f (keyC c1) = none → (rec f (.loop c1) s).den = some (x, s') → (s.br = true → s'.br = true) ∧ ∀ (B : Foot) (w0 : World) (ρ : Rho) (a : Act) (w : World) (Q : Exit → Act → World → Prop), B.base ≤ w0.heap.size → (∀ w, BelowF B w0 w → I w) → StRel B w0 ρ s a w →
  (∀ ρ' a' w', (s'.br = false → Ext ρ ρ') → StRel B w0 ρ' s' a' w' → Q x.to a' w') → Code.rounds P c1 Q m a w
section
variable {P : Program} {I : World → Prop} {M : Env} (hM : EnvOK P I M) {S : List Sum} (hS : ∀ c ∈ S, SumOK P I c)
theorem loop_sound {rec : Rec} {m : Nat} (hrec : RecOK P I rec) (hl : LoopOK P I M m rec) : LoopOK P I M (m + 1) (stepC M P S rec) := by
 intro f c1 s x s' hs0 hn h
 simp only [stepC, hn] at h
 obtain ⟨⟨x1, s1⟩, h1, h2⟩ := den_bind_some h
 obtain ⟨b1, k1⟩ := hrec f c1 s x1 s1 (.loop hs0) h1
 cases x1 with
 | normal =>
  obtain ⟨b2, k2⟩ := hl f c1 s1 x s' hs0 hn h2
  refine ⟨fun hb => b2 (b1 hb), fun B w0 ρ a w Q hB hI hs hQ => ?_⟩
  rw [rounds_succ]
  refine k1 B w0 ρ a w _ hB hI hs fun ρ1 a1 w1 hx hs1 => ?_
  exact k2 B w0 ρ1 a1 w1 Q hB hI hs1 fun ρ2 a2 w2 hx2 hs2 => hQ ρ2 a2 w2 (fun hb => (hx (by cases e : s1.br with
   | false => rfl
   | true => rw [b2 e] at hb; cases hb)).trans (hx2 hb)) hs2
 | exit id =>
  simp [Tree.den] at h2
  obtain ⟨rfl, rfl⟩ := h2
  refine ⟨b1, fun B w0 ρ a w Q hB hI hs hQ => ?_⟩
  rw [rounds_succ]
  exact k1 B w0 ρ a w _ hB hI hs fun ρ1 a1 w1 hx hs1 => hQ ρ1 a1 w1 hx hs1
 | ret =>
  simp [Tree.den] at h2
  obtain ⟨rfl, rfl⟩ := h2
  refine ⟨b1, fun B w0 ρ a w Q hB hI hs hQ => ?_⟩
  rw [rounds_succ]
  exact k1 B w0 ρ a w _ hB hI hs fun ρ1 a1 w1 hx hs1 => hQ ρ1 a1 w1 hx hs1
include hM in
theorem loopS_sound {f : FuncId} {c1 : Code} {c : LoopC} (hs0 : Sub (.loop c1) (bodyC P f)) (hc : findL M.ls f (keyC c1) = some c) {s s' : St} {x : Xt} (h : (loopS c s).den = some (x, s')) :
 s'.br = true ∧ ∀ (B : Foot) (w0 : World) (ρ : Rho) (a : Act) (w : World) (Q : Exit → Act → World → Prop), B.base ≤ w0.heap.size → (∀ w, BelowF B w0 w → I w) → StRel B w0 ρ s a w →
 (∀ ρ' a' w', (s'.br = false → Ext ρ ρ') → StRel B w0 ρ' s' a' w' → Q x.to a' w') → (Code.loop c1).wp P Q a w := by
 obtain ⟨hmem, hf, hk⟩ := findL_spec hc
 unfold loopS at h
 split at h
 ·simp [Tree.den] at h
 rename_i hk9
 obtain ⟨hl, ht⟩ := (hM.loops c hmem).1 (fun e => hk9 (by rw [e]; rfl))
 subst hf
 obtain rfl := loop_code hs0 hk.symm hl
 split at h
 ·rename_i m xs hm
  obtain ⟨h1, h2⟩ := guard_den h
  have key : ∀ (B : Foot) (w0 : World) (ρ : Rho) (a : Act) (w : World), B.base ≤ w0.heap.size → StRel B w0 ρ s a w → ∃ ρs, KindsL c.head.kinds (denL xs) ∧ StRel B w0 ρs (headS c (denL xs)) a w := fun B w0 ρ a w hB hs => by
   obtain ⟨ρF, _, _, _, _, _, hk, hst⟩ := matchSh_sound hB hs hm
   exact ⟨_, hk, hst (valMk (denL xs)) 0 (by have := fits_val (j := 0) (ds := denL xs) (κs := c.head.kinds) (by simpa using hk); simpa using this)⟩
  have br : s'.br = true := by
   have : ∀ (l : List (Xt × Shp × Nat)) (k : Nat), (exitsS c xs k l).den = some (x, s') → s'.br = true := by
    intro l
    induction l with
    | nil => intro k h; simp [exitsS, Tree.den] at h
    | cons p l ih =>
     intro k h
     cases l with
     | nil => simp [exitsS, Tree.den] at h; rw [← h.2]; rfl
     | cons q l =>
      simp only [exitsS, Tree.den] at h
      cases hb : tru (SE.app (1000000000000 + 100 * (100000 * c.f + c.key) + k) (isX c.F k) 0 .b xs).den with
      | true => rw [hb] at h; simp at h; rw [← h.2]; rfl
      | false => rw [hb] at h; exact ih _ h
   exact this _ _ h2
  refine ⟨br, fun B w0 ρ a w Q hB hI hs hQ => ?_⟩
  obtain ⟨ρs, hkk, hst⟩ := key B w0 ρ a w hB hs
  refine ht (denL xs) hkk h1 B w0 ρs a w Q hB hI hst fun i o ys ρ' a' w' ho hF hky hex => ?_
  have e := exits_den (c := c) (xs := xs) hF (k := 0) (Nat.zero_le _) (by simpa using ho) h2
  simp only [Prod.mk.injEq] at e
  obtain ⟨rfl, rfl⟩ := e
  refine hQ ρ' a' w' (fun hb => by rw [br] at hb; cases hb) (hex _ 1 ?_)
  have := fits_app (f := 1000000000 + 100000 * c.f + c.key) (F := c.F) (xs := xs) (κs := o.2.1.kinds) (j := 1) (by rw [hF]; exact hky)
  rw [hF] at this
  exact this
 ·simp [Tree.den] at h
include hM hS in
theorem stepC_sound {rec : Rec} {m : Nat} (hrec : RecOK P I rec) (hl : LoopOK P I M m rec) : RecOK P I (stepC M P S rec) := by
 intro f c s x s' hs0 h
 have h0 := h
 unfold stepC at h
 split at h
 ·simp [Tree.den] at h
  obtain ⟨rfl, rfl⟩ := h
  exact ⟨fun h => h, fun B w0 ρ a w Q hB hI hs hQ => wp_skip (hQ ρ a w (fun _ => Ext.refl ρ) hs)⟩
 ·simp [Tree.den] at h
  obtain ⟨rfl, rfl⟩ := h
  exact ⟨fun h => h, fun B w0 ρ a w Q hB hI hs hQ => wp_label (hQ ρ a w (fun _ => Ext.refl ρ) hs)⟩
 ·rename_i id ops draw
  split at h
  ·rename_i hdr
   subst hdr
   split at h
   ·rename_i hl
    obtain ⟨s1, h1, h2⟩ := den_bind_some h
    obtain ⟨s2, h3, h4⟩ := den_bind_some h2
    simp [Tree.den] at h4
    obtain ⟨rfl, rfl⟩ := h4
    exact ⟨fun hb => by rw [evOps_br h3, drawS_br h1]; exact hb, fun B w0 ρ a w Q hB hI hs hQ => last_sound hrec hB hI hM.mok hS hl h1 h3 hs fun ρ' a' w' hx hs' => hQ ρ' a' w' (fun _ => hx) hs'⟩
   split at h
   ·rename_i hok
    obtain ⟨s1, h1, h2⟩ := den_bind_some h
    simp [Tree.den] at h2
    obtain ⟨rfl, rfl⟩ := h2
    have hmix : P.follows .mixedOrders = true := by simp only [drawOK, Bool.and_eq_true] at hok; exact hok.1.1
    exact ⟨fun hb => by rw [drawS_br h1]; exact hb, fun B w0 ρ a w Q hB hI hs hQ => wp_region_any hmix (drawS_any hrec hB hI hM.mok hS hok h1 hs fun ρ' a' w' hx hs' => hQ ρ' a' w' (fun _ => hx) hs')⟩
   ·simp [Tree.den] at h
  ·rename_i hdr
   obtain ⟨s1, h1, h2⟩ := den_bind_some h
   simp [Tree.den] at h2
   obtain ⟨rfl, rfl⟩ := h2
   have : draw = false := by simpa using hdr
   subst this
   exact ⟨fun hb => by rw [evOps_br h1]; exact hb, fun B w0 ρ a w Q hB hI hs hQ => wp_region_list (evOps_sound hrec hB hI hM.mok hS ops.toList 0 h1 hs fun ρ' a' w' hx hs' => hQ ρ' a' w' (fun _ => hx) hs')⟩
 ·rename_i c1 c2
  obtain ⟨⟨x1, s1⟩, h1, h2⟩ := den_bind_some h
  obtain ⟨b1, k1⟩ := hrec f c1 s x1 s1 (.seqL hs0) h1
  cases x1 with
  | normal =>
   obtain ⟨b2, k2⟩ := hrec f c2 s1 x s' (.seqR hs0) h2
   refine ⟨fun hb => b2 (b1 hb), fun B w0 ρ a w Q hB hI hs hQ => wp_seq (k1 B w0 ρ a w _ hB hI hs fun ρ1 a1 w1 hx hs1 => ?_)⟩
   exact k2 B w0 ρ1 a1 w1 Q hB hI hs1 fun ρ2 a2 w2 hx2 hs2 => hQ ρ2 a2 w2 (fun hb => (hx (by cases e : s1.br with
    | false => rfl
    | true => rw [b2 e] at hb; cases hb)).trans (hx2 hb)) hs2
  | exit id =>
   simp [Tree.den] at h2
   obtain ⟨rfl, rfl⟩ := h2
   exact ⟨b1, fun B w0 ρ a w Q hB hI hs hQ => wp_seq (k1 B w0 ρ a w _ hB hI hs fun ρ1 a1 w1 hx hs1 => hQ ρ1 a1 w1 hx hs1)⟩
  | ret =>
   simp [Tree.den] at h2
   obtain ⟨rfl, rfl⟩ := h2
   exact ⟨b1, fun B w0 ρ a w Q hB hI hs hQ => wp_seq (k1 B w0 ρ a w _ hB hI hs fun ρ1 a1 w1 hx hs1 => hQ ρ1 a1 w1 hx hs1)⟩
 ·rename_i c c1 c2
  split at h
  ·rename_i hc
   obtain ⟨b1, k1⟩ := hrec f c1 s x s' (.condL hs0) h
   exact ⟨b1, fun B w0 ρ a w Q hB hI hs hQ => wp_cond_true (lookT_rel hs.tmps c _ hc).1 (k1 B w0 ρ a w Q hB hI hs hQ)⟩
  ·rename_i hc
   obtain ⟨b1, k1⟩ := hrec f c2 s x s' (.condR hs0) h
   exact ⟨b1, fun B w0 ρ a w Q hB hI hs hQ => wp_cond_false (lookT_rel hs.tmps c _ hc).1 (k1 B w0 ρ a w Q hB hI hs hQ)⟩
  ·rename_i y _ _ hc
   split at h
   ·rename_i hk
    have hst : ∀ (B : Foot) (w0 : World) (ρ : Rho) (a : Act) (w : World), StRel B w0 ρ s a w → ∀ b', a.eval c = .bool b' → StRel B w0 ρ { s with T := refT s.T c b' } a w := fun B w0 ρ a w hs b' e' => by
     refine ⟨hs.toWRel, ?_, hs.defers⟩
     cases c with
     | tmp t =>
      obtain ⟨v, hv, hr⟩ := hs.tmps.get (show s.T[t]? = some _ from hc)
      have ev : v = .bool b' := by
       have : a.eval (.tmp t) = v := getD_of (by simpa using hv)
       rw [← this]
       exact e'
      have hset := hs.tmps.set (c := .p (.c (.e (.lit (.bool b'))))) (v := v) t (by rw [ev]; exact ⟨rfl, .b, rfl, _, rfl⟩)
      have hid : a.tmps.toList.set t v = a.tmps.toList := by
       apply List.ext_getElem?
       intro j
       by_cases e2 : t = j
       ·subst e2
        have hl : t < a.tmps.toList.length := by
         rcases Nat.lt_or_ge t a.tmps.toList.length with h | h
         ·exact h
         ·rw [List.getElem?_eq_none h] at hv; simp at hv
        rw [List.getElem?_set_self hl, hv]
       ·rw [List.getElem?_set_ne e2]
      rw [hid] at hset
      exact hset
     | const v => exact hs.tmps
     | global g => exact hs.tmps
     | func f => exact hs.tmps
    simp only [Tree.den] at h
    cases hb : tru y.den with
    | true =>
     rw [hb] at h
     obtain ⟨b1, k1⟩ := hrec f c1 _ x s' (.condL hs0) h
     refine ⟨b1, fun B w0 ρ a w Q hB hI hs hQ => ?_⟩
     obtain ⟨b, e, db⟩ := erel_bool (ρ := ρ) (lookT_rel hs.tmps c _ hc) hk
     have : b = true := by rw [db] at hb; exact hb
     subst this
     exact wp_cond_true e (k1 B w0 ρ a w Q hB hI (hst B w0 ρ a w hs true e) hQ)
    | false =>
     rw [hb] at h
     obtain ⟨b1, k1⟩ := hrec f c2 _ x s' (.condR hs0) h
     refine ⟨b1, fun B w0 ρ a w Q hB hI hs hQ => ?_⟩
     obtain ⟨b, e, db⟩ := erel_bool (ρ := ρ) (lookT_rel hs.tmps c _ hc) hk
     have : b = false := by rw [db] at hb; exact hb
     subst this
     exact wp_cond_false e (k1 B w0 ρ a w Q hB hI (hst B w0 ρ a w hs false e) hQ)
   ·simp [Tree.den] at h
  ·simp [Tree.den] at h
 ·rename_i id c1
  obtain ⟨⟨x1, s1⟩, h1, h2⟩ := den_bind_some h
  obtain ⟨b1, k1⟩ := hrec f c1 s x1 s1 (.block hs0) h1
  cases x1 with
  | normal =>
   simp [Tree.den] at h2
   obtain ⟨rfl, rfl⟩ := h2
   exact ⟨b1, fun B w0 ρ a w Q hB hI hs hQ => wp_block (k1 B w0 ρ a w _ hB hI hs fun ρ1 a1 w1 hx hs1 => hQ ρ1 a1 w1 hx hs1)⟩
  | exit id' =>
   simp only at h2
   split at h2
   ·rename_i hb
    have hb := beq_len hb
    subst hb
    simp [Tree.den] at h2
    obtain ⟨rfl, rfl⟩ := h2
    refine ⟨b1, fun B w0 ρ a w Q hB hI hs hQ => wp_block (k1 B w0 ρ a w _ hB hI hs fun ρ1 a1 w1 hx hs1 => ?_)⟩
    show (if id' = id' then Q .normal a1 w1 else Q (.exit id') a1 w1)
    rw [if_pos rfl]
    exact hQ ρ1 a1 w1 hx hs1
   ·rename_i hb
    simp [Tree.den] at h2
    obtain ⟨rfl, rfl⟩ := h2
    refine ⟨b1, fun B w0 ρ a w Q hB hI hs hQ => wp_block (k1 B w0 ρ a w _ hB hI hs fun ρ1 a1 w1 hx hs1 => ?_)⟩
    show (if id' = id then Q .normal a1 w1 else Q (.exit id') a1 w1)
    rw [if_neg (fun e => by subst e; exact hb (Nat.beq_refl _))]
    exact hQ ρ1 a1 w1 hx hs1
  | ret =>
   simp [Tree.den] at h2
   obtain ⟨rfl, rfl⟩ := h2
   exact ⟨b1, fun B w0 ρ a w Q hB hI hs hQ => wp_block (k1 B w0 ρ a w _ hB hI hs fun ρ1 a1 w1 hx hs1 => hQ ρ1 a1 w1 hx hs1)⟩
 ·rename_i c1
  split at h
  ·rename_i c hc
   obtain ⟨b1, k1⟩ := loopS_sound hM hs0 hc h
   exact ⟨fun _ => b1, k1⟩
  ·rename_i hn
   obtain ⟨b1, k1⟩ := loop_sound (M := M) (S := S) hrec hl f c1 s x s' hs0 hn h0
   exact ⟨b1, fun B w0 ρ a w Q hB hI hs hQ => wp_loop_rounds (m + 1) (k1 B w0 ρ a w Q hB hI hs hQ)⟩
 ·rename_i id
  simp [Tree.den] at h
  obtain ⟨rfl, rfl⟩ := h
  exact ⟨fun h => h, fun B w0 ρ a w Q hB hI hs hQ => wp_exit (hQ ρ a w (fun _ => Ext.refl ρ) hs)⟩
 ·rename_i c1
  obtain ⟨b1, k1⟩ := hrec f c1 s x s' (.scope hs0) h
  refine ⟨b1, fun B w0 ρ a w Q hB hI hs hQ => wp_scope_straight (k1 B w0 ρ a w _ hB hI hs fun ρ1 a1 w1 hx hs1 => ?_)⟩
  have := hQ ρ1 a1 w1 hx hs1
  cases x <;> exact this
 ·simp [Tree.den] at h
  obtain ⟨rfl, rfl⟩ := h
  exact ⟨fun h => h, fun B w0 ρ a w Q hB hI hs hQ => wp_ret (hQ ρ a w (fun _ => Ext.refl ρ) hs)⟩
 ·simp [Tree.den] at h
include hM hS in
theorem ev_sound (n : Nat) : RecOK P I (ev M P S n) ∧ LoopOK P I M n (ev M P S n) := by
 induction n with
 | zero => exact ⟨fun f c s x s' _ h => by simp [ev, Tree.den] at h, fun f c s x s' _ _ h => by simp [ev, Tree.den] at h⟩
 | succ n ih => exact ⟨stepC_sound hM hS ih.1 ih.2, loop_sound (M := M) ih.1 ih.2⟩
end
end Go.Proofs.YtdioaiepkhepaaaGreatDoor
namespace Go.Proofs.YtdioaiepkhepaaaGreatDoor
open Go.RowKit
theorem good_den {r : RS} : ∀ {t : Tree SV}, t.good r = true → t.ok = true → ∃ v, t.den = some v ∧ fitR r v = true ∧ t.outL = v.leaves
 | .ret v, h, _ => ⟨v, rfl, h, rfl⟩
 | .ite c t f, h, k => by
  simp only [Tree.good, Bool.and_eq_true] at h
  simp only [Tree.ok, Tree.den, Tree.outL] at k ⊢
  cases hc : tru c.den with
  | true => rw [hc] at k; exact good_den h.1 k
  | false => rw [hc] at k; exact good_den h.2 k
 | .fail, _, k => by simp [Tree.ok] at k
theorem goodX_den {r : RS} : ∀ {t : Tree SV}, t.goodX r = true → t.ok = true → ∃ v, t.den = some v ∧ fitXR r v = true ∧ t.outL = v.leaves
 | .ret v, h, _ => ⟨v, rfl, h, rfl⟩
 | .ite c t f, h, k => by
  simp only [Tree.goodX, Bool.and_eq_true] at h
  simp only [Tree.ok, Tree.den, Tree.outL] at k ⊢
  cases hc : tru c.den with
  | true => rw [hc] at k; exact goodX_den h.1 k
  | false => rw [hc] at k; exact goodX_den h.2 k
 | .fail, _, k => by simp [Tree.ok] at k
theorem ok_den : ∀ {t : Tree SV}, t.ok = true → ∃ v, t.den = some v ∧ t.outL = v.leaves
 | .ret v, _ => ⟨v, rfl, rfl⟩
 | .ite c t f, k => by
  simp only [Tree.ok, Tree.den, Tree.outL] at k ⊢
  cases hc : tru c.den with
  | true => rw [hc] at k; exact ok_den k
  | false => rw [hc] at k; exact ok_den k
 | .fail, k => by simp [Tree.ok] at k
section
variable {ρ : Rho}
theorem fitC_spec : ∀ {κs : List SK} {cs : List SC} {vs : List Value}, fitC κs cs = true → CsRel ρ cs vs → vs = leafs cs ∧ KindsL κs vs ∧ κs.all isPl = true
 | [], [], vs, _, hr => by
  cases vs with
  | nil => exact ⟨rfl, rfl, rfl⟩
  | cons _ _ => exact hr.elim
 | κ :: κs, c :: cs, vs, h, hr => by
  cases c with
  | e x =>
   simp only [fitC, Bool.and_eq_true] at h
   cases vs with
   | nil => exact hr.elim
   | cons v vs =>
    obtain ⟨h1, h2⟩ := h
    split at h1
    ·rename_i κ' hk
     simp only [Bool.and_eq_true] at h1
     obtain rfl := eqSK_eq h1.1
     obtain ⟨⟨e, κ2, hk2, hi⟩, hr⟩ := hr
     rw [hk] at hk2
     cases hk2
     obtain ⟨e2, k2, p2⟩ := fitC_spec h2 hr
     refine ⟨by simp only [leafs, SC.leaf, ← e, ← e2], ?_, by simp [h1.2, p2]⟩
     simp only [KindsL]
     exact ⟨v, vs, rfl, hi.kind, k2⟩
    ·cases h1
  | _ => simp [fitC] at h
 | [], _ :: _, _, h, _ => by simp [fitC] at h
 | _ :: _, [], _, h, _ => by simp [fitC] at h
theorem fitP_spec {p : PS} {x : SP} {v : Value} (h : fitP p x = true) (hr : PRel ρ x v) : KindsL p.kinds x.leaves ∧ (∀ rest, p.pack (x.leaves ++ rest) = v) ∧ p.kinds.all isPl = true := by
 cases p with
 | c κ =>
  cases x with
  | c c =>
   obtain ⟨e, k, q⟩ := fitC_spec (ρ := ρ) (vs := [v]) h ⟨hr, trivial⟩
   simp only [leafs, List.cons.injEq, and_true] at e
   refine ⟨?_, fun rest => ?_, q⟩
   ·show KindsL [κ] [c.leaf]
    rw [← e]; exact k
   ·show c.leaf = v
    exact e.symm
  | agg cs => simp [fitP] at h
 | agg κs =>
  cases x with
  | c c => simp [fitP] at h
  | agg cs =>
   obtain ⟨vs, rfl, hr⟩ := hr
   obtain ⟨e, k, q⟩ := fitC_spec (ρ := ρ) h hr
   refine ⟨?_, fun rest => ?_, q⟩
   ·show KindsL κs (leafs cs)
    rw [← e]; exact k
   ·show Value.agg ((leafs cs ++ rest).take κs.length).toArray = _
    rw [← e, List.take_left' k.length]
theorem fitL_spec : ∀ {ps : List PS} {xs : List SP} {vs : List Value}, fitL ps xs = true → PsRel ρ xs vs → KindsL (kindsL ps) (leavesL xs) ∧ packL ps (leavesL xs) = vs ∧ (kindsL ps).all isPl = true
 | [], [], vs, _, hr => by
  cases vs with
  | nil => exact ⟨rfl, rfl, rfl⟩
  | cons _ _ => exact hr.elim
 | p :: ps, x :: xs, vs, h, hr => by
  simp only [fitL, Bool.and_eq_true] at h
  cases vs with
  | nil => exact hr.elim
  | cons v vs =>
   obtain ⟨k1, e1, p1⟩ := fitP_spec (ρ := ρ) h.1 hr.1
   obtain ⟨k2, e2, p2⟩ := fitL_spec h.2 hr.2
   refine ⟨k1.append k2, ?_, by simp only [kindsL, List.all_append, p1, p2, Bool.and_self]⟩
   simp only [packL, leavesL]
   rw [e1, List.drop_left' k1.length, e2]
 | [], _ :: _, _, h, _ => by simp [fitL] at h
 | _ :: _, [], _, h, _ => by simp [fitL] at h
theorem fitR_spec {r : RS} {x : SV} {v : Value} (h : fitR r x = true) (hr : VRel ρ x v) : KindsL r.kinds x.leaves ∧ r.pack x.leaves = v ∧ r.kinds.all isPl = true := by
 cases r with
 | one p =>
  cases x with
  | p x =>
   obtain ⟨k, e, q⟩ := fitP_spec (ρ := ρ) h hr
   refine ⟨k, ?_, q⟩
   have := e []
   rw [List.append_nil] at this
   exact this
  | tup xs => simp [fitR] at h
  | any => simp [fitR] at h
 | tup ps =>
  cases x with
  | p x => simp [fitR] at h
  | any => simp [fitR] at h
  | tup xs =>
   obtain ⟨vs, rfl, hr⟩ := hr
   obtain ⟨k, e, q⟩ := fitL_spec (ρ := ρ) h hr
   exact ⟨k, by show Value.tuple (packL ps (leavesL xs)).toArray = _; rw [e], q⟩
theorem inCs_rel : ∀ {κs : List SK} {us ds : List Value}, RdKs ρ.m κs us ds → ∀ rest, CsRel ρ (inCs κs (ds ++ rest)) us
 | [], us, ds, h, rest => by simp only [RdKs] at h; rw [h.1]; trivial
 | κ :: κs, us, ds, h, rest => by
  simp only [RdKs] at h
  obtain ⟨v, us, d, es, rfl, rfl, q1, q2⟩ := h
  refine ⟨cellK_rel rfl ?_, inCs_rel q2 rest⟩
  show RdK ρ.m κ v (norm κ d)
  rw [q1.kind.norm]
  exact q1
theorem inL_rel : ∀ {ps : List PS} {us ds : List Value}, RdKs ρ.m (kindsL ps) us ds → VsRel ρ (inL ps ds) (packL ps us)
 | [], _, _, _ => trivial
 | p :: ps, us, ds, h => by
  obtain ⟨h1, h2⟩ := h.split
  have hl := h1.length
  simp only [inL, packL]
  refine ⟨?_, inL_rel h2⟩
  cases p with
  | c κ =>
   simp only [PS.kinds, RdKs] at h1
   obtain ⟨v, us', d, es', e1, e2, q1, _⟩ := h1
   have eu : us.headD undef = v := by
    cases us with
    | nil => simp at e1
    | cons a b => simp at e1; exact e1.1
   have ed : ds.headD undef = d := by
    cases ds with
    | nil => simp at e2
    | cons a b => simp at e2; exact e2.1
   show CRel ρ (cellK κ (.val (ds.headD undef) κ)) (us.headD undef)
   rw [eu, ed]
   refine cellK_rel rfl ?_
   show RdK ρ.m κ v (norm κ d)
   rw [q1.kind.norm]
   exact q1
  | agg κs =>
   have := inCs_rel (ρ := ρ) h1 (ds.drop κs.length)
   rw [show (PS.agg κs).kinds = κs from rfl, List.take_append_drop] at this
   exact ⟨_, rfl, this⟩
end
section
variable {P : Program} {f : FuncId} {w0 w : World} {ρ : Rho} {H : List (Nat × Blk)} {nx : Nat} (hW : WRel (newFoot w0) w0 ρ H nx w)
include hW
theorem resX_spec {p : PS} {x x' : SP} {v : Value} (h : resP H (resElem P f) p x = some x') (hf : fitX p x' = true) (hr : PRel ρ x v) : ∃ rs, ResKs P f w0 w p.kinds rs x'.leaves ∧ ∀ rest, p.pack (rs ++ rest) = v := by
 have plain : ∀ {y : SP}, fitP p y = true → PRel ρ y v → ∃ rs, ResKs P f w0 w p.kinds rs y.leaves ∧ ∀ rest, p.pack (rs ++ rest) = v := fun h1 h2 => by
  obtain ⟨k, e, q⟩ := fitP_spec (ρ := ρ) h1 h2
  exact ⟨_, .of_plain q k, e⟩
 cases p with
 | agg κs =>
  cases x with
  | c c => simp [resP] at h
  | agg cs => simp [resP] at h; subst h; exact plain hf hr
 | c κ =>
  cases x with
  | agg cs => simp [resP] at h
  | c c =>
   simp only [resP] at h
   cases hc : resC H (resElem P f) κ c with
   | none => simp [hc] at h
   | some c' =>
    simp [hc] at h
    subst h
    unfold resC at hc
    split at hc
    ·split at hc
     ·rename_i κs e he
      simp at hc
      subst hc
      have hpl : κs.all isPl = true := by simp only [fitX, nilE, SE.kind, Bool.and_eq_true] at hf; exact hf.2
      obtain ⟨p, rfl, hz⟩ := hr
      obtain rfl := hz rfl
      have hre : resElems P f = [e] := by
       unfold resElem at he
       split at he
       ·rename_i e' hre; simp at he; rw [hre, he]
       ·simp at he
      refine ⟨[.slice none 0 0], ?_, fun rest => rfl⟩
      simp only [PS.kinds, ResKs, SP.leaves, SC.leaf]
      exact ⟨_, [], _, [], rfl, rfl, ⟨e, hre, ⟨none, 0, 0⟩, [], [], rfl, rfl, rfl, hpl, fun _ => rfl, Nat.le_refl _, Nat.zero_le _, rfl, World.ownsRow_nil w 0 e κs.length, fun g hg => by cases hg⟩, rfl, rfl⟩
     ·simp at hc
    ·rename_i n k
     split at hc
     ·rename_i κs b e hfi he
      split at hc
      ·rename_i κs' y hy
       split at hc
       ·rename_i hcond
        simp only [Bool.and_eq_true] at hcond
        obtain rfl := eqSKs_eq hcond.1.1
        obtain rfl : b.elem = e := beq_len hcond.2
        simp at hc
        subst hc
        obtain ⟨A, L, hn, q1, q2, q3, q4, q5, q6, rfl⟩ := hr
        obtain ⟨es, us, hk, hp, hd, hl, hz, hlc, hcm, hfl, how⟩ := hW.ext.arr n b _ y A hfi hy hn
        have hre : resElems P f = [b.elem] := by
         unfold resElem at he
         split at he
         ·rename_i e' hre; simp at he; rw [hre, he]
         ·simp at he
        refine ⟨[.slice (A.g.map fun g => ⟨g, 0, none⟩) L A.cap], ?_, fun rest => rfl⟩
        simp only [PS.kinds, ResKs, SP.leaves, SC.leaf]
        refine ⟨_, [], _, [], rfl, rfl, ⟨b.elem, hre, ⟨A.g, A.cap, L⟩, es.take L, us.take (L * κs'.length), rfl, takeE_den hd (fun e => by rw [q5 e, hl]) q6, by simp; omega, hp, q3, by show L ≤ A.cap; omega, q2, hfl.take L (by omega), ownsRow_take how q4, fun g hg => ?_⟩, rfl, rfl⟩
        rcases (hW.ext.offa n b A g hfi (by rw [hy]; simp) hn hg).1 hcond.1.2 with h1 | h1
        ·exact h1
        ·exact h1.elim
       ·simp at hc
      ·simp at hc
     ·simp at hc
    ·simp at hc
     subst hc
     refine plain ?_ hr
     cases κ <;> exact hf
    ·simp at hc
theorem resXs_spec : ∀ {ps : List PS} {xs xs' : List SP} {vs : List Value}, resPs H (resElem P f) ps xs = some xs' → fitXs ps xs' = true → PsRel ρ xs vs → ∃ rs, ResKs P f w0 w (kindsL ps) rs (leavesL xs') ∧ packL ps rs = vs
 | [], [], xs', vs, h, _, hr => by
  simp [resPs] at h
  subst h
  cases vs with
  | nil => exact ⟨[], by simp [kindsL, leavesL, ResKs], rfl⟩
  | cons _ _ => exact hr.elim
 | p :: ps, x :: xs, xs', vs, h, hf, hr => by
  simp only [resPs] at h
  split at h
  ·rename_i a b ha hb
   simp at h
   subst h
   simp only [fitXs, Bool.and_eq_true] at hf
   cases vs with
   | nil => exact hr.elim
   | cons v vs =>
    obtain ⟨r1, k1, e1⟩ := resX_spec hW ha hf.1 hr.1
    obtain ⟨r2, k2, e2⟩ := resXs_spec hb hf.2 hr.2
    refine ⟨r1 ++ r2, ?_, ?_⟩
    ·have : ∀ {κs κs' : List SK} {a b a' b' : List Value}, ResKs P f w0 w κs a b → ResKs P f w0 w κs' a' b' → ResKs P f w0 w (κs ++ κs') (a ++ a') (b ++ b') := by
      intro κs
      induction κs with
      | nil => intro κs' a b a' b' h k; simp only [ResKs] at h; simpa [h.1, h.2] using k
      | cons κ κs ih =>
       intro κs' a b a' b' h k
       simp only [ResKs] at h
       obtain ⟨v, us, d, es, rfl, rfl, q1, q2⟩ := h
       simp only [List.cons_append, ResKs]
       exact ⟨v, _, d, _, rfl, rfl, q1, ih q2 k⟩
     exact this k1 k2
    ·simp only [packL]
     rw [e1, List.drop_left' k1.length.1, e2]
  ·simp at h
 | [], _ :: _, _, _, h, _, _ => by simp [resPs] at h
 | _ :: _, [], _, _, h, _, _ => by simp [resPs] at h
theorem resXR_spec {R : RS} {x x' : SV} {v : Value} (h : resSV H (resElem P f) R x = some x') (hf : fitXR R x' = true) (hr : VRel ρ x v) : ∃ rs, v = R.pack rs ∧ ResKs P f w0 w R.kinds rs x'.leaves := by
 cases R with
 | one p =>
  cases x with
  | p x =>
   simp only [resSV] at h
   cases hx : resP H (resElem P f) p x with
   | none => simp [hx] at h
   | some y =>
    simp [hx] at h
    subst h
    obtain ⟨rs, k, e⟩ := resX_spec hW hx hf hr
    refine ⟨rs, ?_, k⟩
    have := e []
    rw [List.append_nil] at this
    exact this.symm
  | tup xs => simp [resSV] at h
  | any => simp [resSV] at h
 | tup ps =>
  cases x with
  | p x => simp [resSV] at h
  | any => simp [resSV] at h
  | tup xs =>
   simp only [resSV] at h
   cases hx : resPs H (resElem P f) ps xs with
   | none => simp [hx] at h
   | some ys =>
    simp [hx] at h
    subst h
    obtain ⟨vs, rfl, hr⟩ := hr
    obtain ⟨rs, k, e⟩ := resXs_spec hW hx hf hr
    exact ⟨rs, by show _ = Value.tuple (packL ps rs).toArray; rw [e], k⟩
end
theorem start_rel {w : World} : WRel (newFoot w) w ⟨fun _ => none, fun _ => none, w.cell?⟩ [] 0 w :=
 ⟨⟨(fun _ _ h => by cases h), (fun _ _ _ h => by cases h), (fun _ _ _ h => by simp [find] at h)⟩,
  ⟨(fun _ _ h => h), (fun _ _ _ h => by simp [find] at h), (fun _ _ _ _ _ h => by simp [find] at h), (fun _ _ _ _ h => by simp [find] at h), (fun _ _ h => by simp [find] at h), (fun _ _ _ _ _ _ _ h => by simp [find] at h)⟩,
  BelowF.refl _ _, (fun _ _ => rfl), (fun _ _ => rfl), (fun _ _ h => by simp [find] at h)⟩
theorem call_part {P : Program} {I : World → Prop} (hst : Stays I) {M : Env} (hM : EnvOK P I M) {S : List Sum} (hS : ∀ c ∈ S, SumOK P I c) (n : Nat) (f : FuncId) (A : List PS) (R : RS) {ds us : List Value} (hg : (evFM M P S n f (inL A ds) R).goodX R = true) (hok : (evFM M P S n f (inL A ds) R).ok = true)
 {w : World} (hIw : I w) (hk : RdKs w.cell? (kindsL A) us ds) : CallOK P f (packL A us).toArray w fun v w' => ∃ rs, v = R.pack rs ∧ ResKs P f w w' R.kinds rs (evFM M P S n f (inL A ds) R).outL ∧ Below w.heap.size w w' := by
 obtain ⟨v, hd, hf, hv⟩ := goodX_den hg hok
 unfold evFM at hd
 obtain ⟨⟨sv, H', nx', br⟩, h1, h2⟩ := den_bind_some hd
 simp only at h2
 split at h2
 ·rename_i v' hres
  simp [Tree.den] at h2
  subst h2
  refine (callF_sound (ev_sound hM hS n).1 (B := newFoot w) (w0 := w) (Nat.le_refl _) (fun w' hb => hst w w' hIw hb.below) h1 (vs := packL A us) (inL_rel (ρ := ⟨fun _ => none, fun _ => none, w.cell?⟩) hk) start_rel).mono ?_
  rintro x w' ⟨ρ', _, hx, hW⟩
  obtain ⟨rs, e, k⟩ := resXR_spec hW hres hf hx
  exact ⟨rs, e, by rw [hv]; exact k, hW.below.below⟩
 ·simp [Tree.den] at h2
theorem noEnv_ok {P : Program} {I : World → Prop} : EnvOK P I noEnv := ⟨fun _ h => (by cases h), fun _ h => (by cases h)⟩
theorem sumOK_part {P : Program} {I : World → Prop} (hst : Stays I) {S : List Sum} (hS : ∀ c ∈ S, SumOK P I c) (n : Nat) (f : FuncId) (A : List PS) (R : RS) (hg : ∀ vs, (evF P S n f (inL A vs)).good R = true)
 (hok : ∀ vs, KindsL (kindsL A) vs → (evF P S n f (inL A vs)).ok = true) : SumOK P I ⟨f, fun vs => (evF P S n f (inL A vs)).outL, A, R⟩ := by
 intro ds us w hIw hk
 obtain ⟨v, hd, hf, hv⟩ := good_den (hg ds) (hok ds hk.kinds)
 unfold evF at hd
 obtain ⟨⟨sv, H', nx', br⟩, h1, h2⟩ := den_bind_some hd
 simp [Tree.den] at h2
 subst h2
 refine (callF_sound (ev_sound noEnv_ok hS n).1 (B := newFoot w) (w0 := w) (Nat.le_refl _) (fun w' hb => hst w w' hIw hb.below) h1 (vs := packL A us) (inL_rel (ρ := ⟨fun _ => none, fun _ => none, w.cell?⟩) hk) start_rel).mono ?_
 rintro x w' ⟨ρ', _, hx, hW⟩
 obtain ⟨k, hp, hpl⟩ := fitR_spec hf hx
 have e : ResKs P f w w' R.kinds sv.leaves (evF P S n f (inL A ds)).outL := by rw [hv]; exact .of_plain hpl k
 exact ⟨sv.leaves, hp.symm, e, hW.below.below⟩
theorem sumOK_ev {P : Program} {I : World → Prop} (hst : Stays I) {S : List Sum} (hS : ∀ c ∈ S, SumOK P I c) (n : Nat) (f : FuncId) (A : List PS) (R : RS) (hg : ∀ vs, ((evF P S n f (inL A vs)).good R && (evF P S n f (inL A vs)).sure) = true) :
 SumOK P I ⟨f, fun vs => (evF P S n f (inL A vs)).outL, A, R⟩ :=
 sumOK_part hst hS n f A R (fun vs => (Bool.and_eq_true_iff.1 (hg vs)).1) (fun vs _ => ok_of_sure (Bool.and_eq_true_iff.1 (hg vs)).2)
def AllOK (P : Program) (I : World → Prop) (S : List Sum) : Prop := ∀ c ∈ S, SumOK P I c
theorem allOK_nil {P : Program} {I : World → Prop} : AllOK P I [] := fun _ h => by cases h
theorem allOK_cons {P : Program} {I : World → Prop} {s : Sum} {S : List Sum} (h : SumOK P I s) (k : AllOK P I S) : AllOK P I (s :: S) := fun c hc => by
 rcases List.mem_cons.1 hc with rfl | hc
 ·exact h
 ·exact k c hc
def AllC (P : Program) (I : World → Prop) (S : List CSum) : Prop := ∀ c ∈ S, CSumOK P I c
theorem allC_nil {P : Program} {I : World → Prop} : AllC P I [] := fun _ h => by cases h
theorem allC_cons {P : Program} {I : World → Prop} {s : CSum} {S : List CSum} (h : CSumOK P I s) (k : AllC P I S) : AllC P I (s :: S) := fun c hc => by
 rcases List.mem_cons.1 hc with rfl | hc
 ·exact h
 ·exact k c hc
def AllL (P : Program) (I : World → Prop) (S : List LoopC) : Prop := ∀ c ∈ S, LoopTrue P I c
theorem allL_nil {P : Program} {I : World → Prop} : AllL P I [] := fun _ h => by cases h
theorem allL_cons {P : Program} {I : World → Prop} {s : LoopC} {S : List LoopC} (h : LoopTrue P I s) (k : AllL P I S) : AllL P I (s :: S) := fun c hc => by
 rcases List.mem_cons.1 hc with rfl | hc
 ·exact h
 ·exact k c hc
def Any : World → Prop := fun _ => True
theorem any_stays : Stays Any := fun _ _ _ _ => trivial
theorem denL_e : ∀ xs : List SE, leafs (xs.map .e) = denL xs
 | [] => rfl
 | _ :: xs => by simp [leafs, SC.leaf, denL, denL_e xs]
theorem outOf_spec {x : Xt} {s : St} {sv : SV} : ∀ {l : List (Xt × Shp × Nat)} {i : Nat}, (outOf x s i l).den = some sv → ∃ (k : Nat) (o : Xt × Shp × Nat) (m : MSt) (xs : List SE), l[k]? = some o ∧ o.1 = x ∧ matchSh s o.2.1 o.2.2 = some (m, xs) ∧ sv.leaves = .int .i64 ((i + k : Nat) : Int) :: denL xs
 | [], _, h => by simp [outOf, Tree.den] at h
 | o :: l, i, h => by
  have next : (outOf x s (i + 1) l).den = some sv → ∃ (k : Nat) (o' : Xt × Shp × Nat) (m : MSt) (xs : List SE), (o :: l)[k]? = some o' ∧ o'.1 = x ∧ matchSh s o'.2.1 o'.2.2 = some (m, xs) ∧ sv.leaves = .int .i64 ((i + k : Nat) : Int) :: denL xs := fun h => by
   obtain ⟨k, o', m, xs, h1, h2, h3, h4⟩ := outOf_spec h
   exact ⟨k + 1, o', m, xs, by simpa using h1, h2, h3, by rw [h4]; congr 2; omega⟩
  simp only [outOf] at h
  split at h
  ·rename_i he
   split at h
   ·rename_i m xs hm
    simp [Tree.den] at h
    subst h
    refine ⟨0, o, m, xs, rfl, ?_, hm, by simp [SV.leaves, SP.leaves, leafs, SC.leaf, SE.den, denL_e]⟩
    revert he
    cases o.1 <;> cases x <;> simp [eqXt]
   ·exact next h
  ·exact next h
theorem Sub.trans {u v z : Code} (h : Sub u v) (k : Sub v z) : Sub u z := by
 induction h with
 | refl _ => exact k
 | seqL _ ih => exact .seqL (ih k)
 | seqR _ ih => exact .seqR (ih k)
 | condL _ ih => exact .condL (ih k)
 | condR _ ih => exact .condR (ih k)
 | block _ ih => exact .block (ih k)
 | loop _ ih => exact .loop (ih k)
 | scope _ ih => exact .scope (ih k)
theorem loop_true {P : Program} {I : World → Prop} {M : Env} (hM : EnvOK P I M) {S : List Sum} (hS : ∀ c ∈ S, SumOK P I c) (n : Nat) (c : LoopC) (h1 : (loopsBy P c.f c.key).length = 1) (meas : List Value → Nat)
 (hr : ∀ xs, KindsL c.head.kinds xs → c.pre xs = true → (evL M P S n c xs).ok = true ∧ ((∃ ys, (evL M P S n c xs).outL = .int .i64 (-1) :: ys ∧ c.pre ys = true ∧ meas ys < meas xs ∧ c.F ys = c.F xs) ∨ (∃ (i : Nat) (ys : List Value), (evL M P S n c xs).outL = .int .i64 i :: ys ∧ c.F xs = (evL M P S n c xs).outL))) : LoopTrue P I c := by
 have h9 : c.key ≠ 99999 := fun e => by
  rw [e] at h1
  simp [loopsBy] at h1
 refine ⟨fun _ => ⟨h1, fun xs hk hp B w0 ρ a w Q hB hI hs hQ => ?_⟩, fun e => absurd e h9⟩
 have hsub : Sub (.loop (loopAt P c.f c.key)) (bodyC P c.f) := by
  have hm : loopAt P c.f c.key ∈ loopsC (bodyC P c.f) := by
   have : loopAt P c.f c.key ∈ loopsBy P c.f c.key := by
    unfold loopAt
    match h : loopsBy P c.f c.key, h1 with
    | [b], _ => simp
   unfold loopsBy at this
   split at this
   ·cases this
   exact (List.mem_filter.1 this).1
  have key : ∀ (b : Code), ∀ l ∈ loopsC b, Sub (.loop l) b := by
   intro b
   induction b with
   | seq x y ihx ihy =>
    intro l hl
    simp only [loopsC, List.mem_append] at hl
    rcases hl with hl | hl
    ·exact Sub.trans (ihx l hl) (.seqL (.refl _))
    ·exact Sub.trans (ihy l hl) (.seqR (.refl _))
   | cond z x y ihx ihy =>
    intro l hl
    simp only [loopsC, List.mem_append] at hl
    rcases hl with hl | hl
    ·exact Sub.trans (ihx l hl) (.condL (.refl _))
    ·exact Sub.trans (ihy l hl) (.condR (.refl _))
   | block i x ih =>
    intro l hl
    exact Sub.trans (ih l hl) (.block (.refl _))
   | loop x ih =>
    intro l hl
    simp only [loopsC, List.mem_cons] at hl
    rcases hl with rfl | hl
    ·exact .refl _
    ·exact Sub.trans (ih l hl) (.loop (.refl _))
   | scope x ih =>
    intro l hl
    exact Sub.trans (ih l hl) (.scope (.refl _))
   | _ => intro l hl; simp [loopsC] at hl
  exact key _ _ hm
 refine wp_loop_rounds (meas xs + 1) ?_
 have main : ∀ (k : Nat) (xs : List Value), meas xs < k → KindsL c.head.kinds xs → c.pre xs = true → ∀ (ρ : Rho) (a : Act) (w : World), StRel B w0 ρ (headS c xs) a w →
  (∀ (i : Nat) (o : Xt × Shp × Nat) (ys : List Value) ρ' a' w', c.outs[i]? = some o → c.F xs = .int .i64 (i : Nat) :: ys → KindsL o.2.1.kinds ys → (∀ mk j, Fits mk j o.2.1.kinds ys → StRel B w0 ρ' (o.2.1.inst (fun n => n) mk j o.2.2) a' w') → Q o.1.to a' w') → Code.rounds P (loopAt P c.f c.key) Q k a w := by
  intro k
  induction k with
  | zero => intro xs h; omega
  | succ k ih =>
   intro xs hlt hk hp ρ a w hs hQ
   obtain ⟨hok, hcase⟩ := hr xs hk hp
   obtain ⟨sv, hd, hout⟩ := ok_den hok
   unfold evL at hd
   obtain ⟨⟨x, s'⟩, hd1, hd2⟩ := den_bind_some hd
   obtain ⟨_, hwp⟩ := (ev_sound hM hS n).1 c.f _ _ x s' (.loop hsub) hd1
   rw [rounds_succ]
   refine hwp B w0 ρ a w _ hB hI hs fun ρ' a' w' _ hs' => ?_
   have exits : (outOf x s' 0 c.outs).den = some sv → Q x.to a' w' := fun hd2 => by
    obtain ⟨i, o, m, xsE, q1, q2, q3, q4⟩ := outOf_spec hd2
    rw [Nat.zero_add] at q4
    obtain ⟨ρF, _, _, _, _, _, hk', hst⟩ := matchSh_sound hB hs' q3
    rcases hcase with ⟨ys, e, _⟩ | ⟨i', ys, e, hF⟩
    ·rw [hout, q4] at e
     simp only [List.cons.injEq, Value.int.injEq, true_and] at e
     omega
    ·rw [hout, q4] at hF
     rw [← q2]
     exact hQ i o (denL xsE) _ a' w' q1 hF hk' hst
   cases x with
   | exit id => exact exits hd2
   | ret => exact exits hd2
   | normal =>
    simp only [roundS] at hd2
    split at hd2
    ·rename_i m xsE hm
     simp [Tree.den] at hd2
     subst hd2
     obtain ⟨ρF, _, _, _, _, _, hk', hst⟩ := matchSh_sound hB hs' hm
     have hl : (evL M P S n c xs).outL = .int .i64 (-1) :: denL xsE := by rw [hout]; simp [SV.leaves, SP.leaves, leafs, SC.leaf, SE.den, denL_e]
     rcases hcase with ⟨ys, e, h2, h3, h4⟩ | ⟨i, ys, e, _⟩
     ·rw [hl] at e
      simp only [List.cons.injEq, true_and] at e
      subst e
      refine ih (denL xsE) (by omega) hk' h2 _ a' w' (hst (valMk (denL xsE)) 0 (by have := fits_val (j := 0) (ds := denL xsE) (κs := c.head.kinds) (by simpa using hk'); simpa using this)) fun i o ys ρ2 a2 w2 q1 q2 => ?_
      exact hQ i o ys ρ2 a2 w2 q1 (by rw [← h4]; exact q2)
     ·rw [hl] at e
      simp only [List.cons.injEq, Value.int.injEq, true_and] at e
      omega
    ·simp [Tree.den] at hd2
 exact main (meas xs + 1) xs (Nat.lt_succ_self _) hk hp ρ a w hs hQ
theorem outBS_spec {c : LoopC} {v : SV} {H : List (Nat × Blk)} {nx : Nat} {sv : SV} : ∀ {l : List (Xt × Shp × Nat)} {i : Nat}, (outBS c v H nx i l).den = some sv → ∃ (k : Nat) (o : Xt × Shp × Nat) (m : MSt) (xs : List SE), l[k]? = some o ∧ matchSh { T := v :: keptPs c.head.H c.head.H, H, nx } o.2.1 o.2.2 = some (m, xs) ∧ keptOK c.head.H m = true ∧ sv.leaves = .int .i64 ((i + k : Nat) : Int) :: denL xs
 | [], _, h => by simp [outBS, Tree.den] at h
 | o :: l, i, h => by
  simp only [outBS] at h
  have next : (outBS c v H nx (i + 1) l).den = some sv → ∃ (k : Nat) (o' : Xt × Shp × Nat) (m : MSt) (xs : List SE), (o :: l)[k]? = some o' ∧ matchSh { T := v :: keptPs c.head.H c.head.H, H, nx } o'.2.1 o'.2.2 = some (m, xs) ∧ keptOK c.head.H m = true ∧ sv.leaves = .int .i64 ((i + k : Nat) : Int) :: denL xs := fun h => by
   obtain ⟨k, o', m, xs, q1, q2, q3, q4⟩ := outBS_spec h
   exact ⟨k + 1, o', m, xs, by simpa using q1, q2, q3, by rw [q4, show i + 1 + k = i + (k + 1) by omega]⟩
  split at h
  ·rename_i m xs hm
   split at h
   ·rename_i hk
    simp [Tree.den] at h
    subst h
    exact ⟨0, o, m, xs, rfl, hm, hk, by simp [SV.leaves, SP.leaves, leafs, SC.leaf, SE.den, denL_e]⟩
   ·exact next h
  ·exact next h
theorem keptPs_rel {ρ : Rho} {H : List (Nat × PB)} (h : ∀ k, keptH H k = true → ∃ x, ρ k = some x) : ∀ l : List (Nat × PB), ∃ us : List Value, VsRel ρ (keptPs H l) us
 | [] => ⟨[], trivial⟩
 | p :: l => by
  obtain ⟨us, hu⟩ := keptPs_rel h l
  simp only [keptPs]
  split
  ·rename_i hk
   obtain ⟨x, hx⟩ := h p.1 hk
   exact ⟨.pointer (some ⟨x, 0, none⟩) :: us, ⟨x, hx, rfl⟩, hu⟩
  ·exact ⟨us, hu⟩
theorem body_true {P : Program} {I : World → Prop} {M : Env} (hM : EnvOK P I M) {S : List Sum} (hS : ∀ c ∈ S, SumOK P I c) (n : Nat) (c : LoopC) (hkey : c.key = 99999) (hF : ∀ xs, c.F xs = (evB M P S n c xs).outL)
 (hr : ∀ xs, KindsL c.head.kinds xs → c.pre xs = true → (evB M P S n c xs).ok = true) : LoopTrue P I c := by
 refine ⟨fun e => absurd hkey e, fun _ xs hk hp B w0 ρ w args hB hI hW hargs => ?_⟩
 obtain ⟨sv, hd, hout⟩ := ok_den (hr xs hk hp)
 unfold evB at hd
 obtain ⟨⟨v1, H1, nx1, br⟩, h1, h2⟩ := den_bind_some hd
 simp only at h2
 split at h2
 ·simp [Tree.den] at h2
 ·rename_i hbr
  refine (callF_sound (ev_sound hM hS n).1 hB hI h1 hargs hW).mono fun v w' ⟨ρ1, hx1, hv1, hW1⟩ => ?_
  have hx1 := hx1 (by simpa using hbr)
  obtain ⟨ρ2, hx2, hW2⟩ := norm_sound hB hW1
  obtain ⟨i, o, m, xsE, q1, q2, q3, q4⟩ := outBS_spec h2
  rw [Nat.zero_add] at q4
  have has : ∀ k, keptH c.head.H k = true → ∃ y, ρ k = some y := fun k hkept => by
   unfold keptH at hkept
   split at hkept
   ·rename_i pb hpb
    obtain ⟨j', hf⟩ := findPB_inst (mk := valMk xs) (j := 0 + (kindsVs c.head.T).length) hpb
    exact (hW.ext.has k _ hf).2 (by
     cases he : pb.arr with
     | none => simp [PB.inst, he]
     | some _ => rw [he] at hkept; simp at hkept)
   ·cases hkept
  obtain ⟨us0, hus⟩ := keptPs_rel (ρ := ρ2) (H := c.head.H) (fun k hkept => by
   obtain ⟨y, hy⟩ := has k hkept
   exact ⟨y, (hx1.trans hx2).b _ _ hy⟩) c.head.H
  obtain ⟨ρF, hxF, hWF, hinj, hlt, hrd, hk', hst⟩ := matchSh_full hB (a := ⟨(v :: us0).toArray, []⟩) (ρ := ρ2) (w := w') ⟨hW2, (show VsRel ρ2 (v1 :: keptPs c.head.H c.head.H) (v :: us0) from ⟨VRel.mono hx2 hv1, hus⟩), rfl⟩ q2
  have hx := (hx1.trans hx2).trans hxF
  refine ⟨i, o, denL xsE, shp m ρF w', q1, by rw [hF, hout, q4], hk', fun k x hkept hkx => ?_, fun mk j hfit => ?_⟩
  ·obtain ⟨n', r1, r2⟩ := shp_bx hkx
   have r3 : (!(keptH c.head.H k) || Nat.beq k n') = true := List.all_eq_true.1 q3 _ (lookN_mem r1)
   rw [hkept, Bool.not_true, Bool.false_or] at r3
   have r3 := beq_len r3
   subst r3
   obtain ⟨y, hy⟩ := has k hkept
   have := hx.b _ _ hy
   rw [this] at r2
   cases r2
   exact hy
  ·obtain ⟨hs, NB⟩ := hst mk j hfit
   refine ⟨⟨us0, hs.tmps⟩, hs.toWRel, fun k blk A g hf hb hA hg m' y hy => ?_⟩
   obtain ⟨n', b, r1, r2, r3⟩ := NB k blk hf
   rw [shp_a r1] at hA
   exact (hWF.ext.offa n' b A g r2 (fun e => hb (r3.2 e)) hA hg).2.2 m' y (hx.b _ _ hy)
end Go.Proofs.YtdioaiepkhepaaaGreatDoor
namespace Go.Proofs.YtdioaiepkhepaaaGreatDoor
def Inv : World → Prop := Any
theorem inv_stays : Stays Inv := any_stays
end Go.Proofs.YtdioaiepkhepaaaGreatDoor
namespace Go.Proofs.YtdioaiepkhepaaaGreatDoor
open Go.RowKit
theorem veil {α β : Type} (x : α → β) : ∃ y : α → β, ∀ a, y a = x a := ⟨x, fun _ => rfl⟩
theorem sumOK_partV {P : Program} {I : World → Prop} (hst : Stays I) {S : List Sum} (hS : ∀ c ∈ S, SumOK P I c) (n : Nat) (f : FuncId) (A : List PS) (R : RS) {L : List Value → List Value} (hL : ∀ vs, L vs = (evF P S n f (inL A vs)).outL) (hg : ∀ vs, (evF P S n f (inL A vs)).good R = true)
 (hok : ∀ vs, KindsL (kindsL A) vs → (evF P S n f (inL A vs)).ok = true) : SumOK P I ⟨f, L, A, R⟩ := by
 obtain rfl : L = fun vs => (evF P S n f (inL A vs)).outL := funext hL
 exact sumOK_part hst hS n f A R hg hok
theorem sumOK_evV {P : Program} {I : World → Prop} (hst : Stays I) {S : List Sum} (hS : ∀ c ∈ S, SumOK P I c) (n : Nat) (f : FuncId) (A : List PS) (R : RS) {L : List Value → List Value} (hL : ∀ vs, L vs = (evF P S n f (inL A vs)).outL) (hg : ∀ vs, ((evF P S n f (inL A vs)).good R && (evF P S n f (inL A vs)).sure) = true) :
 SumOK P I ⟨f, L, A, R⟩ := by
 obtain rfl : L = fun vs => (evF P S n f (inL A vs)).outL := funext hL
 exact sumOK_ev hst hS n f A R hg
theorem csumOK_partV {P : Program} {I : World → Prop} (hst : Stays I) {M : Env} (hM : EnvOK P I M) {S : List Sum} (hS : ∀ c ∈ S, SumOK P I c) (n : Nat) (f : FuncId) (A : List PS) (R : RS) {L : List Value → List Value} (hL : ∀ vs, L vs = (evFM M P S n f (inL A vs) R).outL) (pre : List Value → Bool) (hg : ∀ vs, (evFM M P S n f (inL A vs) R).goodX R = true)
 (hok : ∀ vs, KindsL (kindsL A) vs → pre vs = true → (evFM M P S n f (inL A vs) R).ok = true) : CSumOK P I ⟨f, L, pre, A, R⟩ := by
 obtain rfl : L = fun vs => (evFM M P S n f (inL A vs) R).outL := funext hL
 exact fun ds us w hIw hk hp => call_part hst hM hS n f A R (hg ds) (hok ds hk.kinds hp) hIw hk
theorem sumOK_partL {P : Program} {I : World → Prop} (hst : Stays I) {M : Env} (hM : EnvOK P I M) {S : List Sum} (hS : ∀ c ∈ S, SumOK P I c) (n : Nat) (f : FuncId) (A : List PS) (R : RS) {L : List Value → List Value} (hL : ∀ vs, L vs = (evFM M P S n f (inL A vs) R).outL) (hg : ∀ vs, (evFM M P S n f (inL A vs) R).goodX R = true)
 (hok : ∀ vs, KindsL (kindsL A) vs → (evFM M P S n f (inL A vs) R).ok = true) : SumOK P I ⟨f, L, A, R⟩ := by
 obtain rfl : L = fun vs => (evFM M P S n f (inL A vs) R).outL := funext hL
 exact fun ds us w hIw hk => call_part hst hM hS n f A R (hg ds) (hok ds hk.kinds) hIw hk
theorem spellV {β : Type} (d : List Value → β) (t : Tree SV) {L : List Value → List Value} {vs : List Value} {y : β} (h1 : L vs = t.outL) (h2 : t.fold d = y) : d (L vs) = y := (congrArg d h1).trans ((fold_eq d t).trans h2)
end Go.Proofs.YtdioaiepkhepaaaGreatDoor
