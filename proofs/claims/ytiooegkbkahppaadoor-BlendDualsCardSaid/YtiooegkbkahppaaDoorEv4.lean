/- The symbolic evaluator: every operation that is no call of a Go function is sound. No condition. -/
import Derived.Test.YtiooegkbkahppaaDoorEv3
import Derived.ChangeKeysEq
import Derived.Laws.Tables
namespace Go.Proofs.YtiooegkbkahppaaDoor
open Go.RowKit

section
variable {P : Program} {w : World} {ρ : Rho}

def EqOk (P : Program) (w : World) (ρ : Rho) (d : Nat) (rec : TypeId → SP → SP → Option SE) : Prop :=
  ∀ t x y c v u, rec t x y = some c → PRel ρ x v → PRel ρ y u → ∃ b, (Op.equalIn d t v u).run P w = .ok b w ∧ CRel ρ (.e c) (.bool b)

theorem eqFs_sound {d : Nat} {rec : TypeId → SP → SP → Option SE} (hrec : EqOk P w ρ d rec) {xs ys : List SC} {vs us : List Value} (hx : CsRel ρ xs vs) (hy : CsRel ρ ys us) :
    ∀ (fs : List Field) (c : SE), eqFs rec P xs ys fs = some c → ∃ b, (Op.eqFields d vs.toArray us.toArray fs).run P w = .ok b w ∧ CRel ρ (.e c) (.bool b)
  | [], c, h => by
    simp [eqFs] at h
    subst h
    exact ⟨true, by simp [Op.eqFields], rfl, .b, rfl, _, rfl⟩
  | f :: fs, c, h => by
    simp only [eqFs] at h
    split at h
    · simp at h
    · rename_i hn
      split at h
      · rename_i a b ha hb
        split at h
        · rename_i c1 c2 h1 h2
          simp at h
          subst h
          obtain ⟨va, ra, pa⟩ := run_part (P := P) (w := w) ha hx
          obtain ⟨vb, rb, pb⟩ := run_part (P := P) (w := w) hb hy
          obtain ⟨r1, e1, k1⟩ := hrec _ _ _ _ _ _ h1 pa pb
          obtain ⟨r2, e2, k2⟩ := eqFs_sound hrec hx hy fs c2 h2
          have hn' : f.name ≠ "_" := by simpa using hn
          refine ⟨r1 && r2, ?_, mkCon_rel k1 k2⟩
          simp only [Op.eqFields, if_pos hn', Sem.run_bind, ra, rb, e1, Result.andThen_ok]
          cases r1 <;> simp [e2]
        · simp at h
      · simp at h

theorem eqEs_sound {d : Nat} {rec : TypeId → SP → SP → Option SE} (hrec : EqOk P w ρ d rec) {xs ys : List SC} {vs us : List Value} (hx : CsRel ρ xs vs) (hy : CsRel ρ ys us) (e n : Nat) :
    ∀ (len i : Nat) (c : SE), eqEs rec P e n xs ys i len = some c → ∃ b, (Op.eqItems d e n vs.toArray us.toArray (List.range' i len)).run P w = .ok b w ∧ CRel ρ (.e c) (.bool b)
  | 0, i, c, h => by
    simp [eqEs] at h
    subst h
    exact ⟨true, by simp [Op.eqItems], rfl, .b, rfl, _, rfl⟩
  | len + 1, i, c, h => by
    simp only [eqEs] at h
    split at h
    · rename_i a b ha hb
      split at h
      · rename_i c1 c2 h1 h2
        simp at h
        subst h
        obtain ⟨va, ra, pa⟩ := run_part (P := P) (w := w) ha hx
        obtain ⟨vb, rb, pb⟩ := run_part (P := P) (w := w) hb hy
        obtain ⟨r1, e1, k1⟩ := hrec _ _ _ _ _ _ h1 pa pb
        obtain ⟨r2, e2, k2⟩ := eqEs_sound hrec hx hy e n len (i + 1) c2 h2
        refine ⟨r1 && r2, ?_, mkCon_rel k1 k2⟩
        simp only [List.range'_succ, Op.eqItems, Sem.run_bind, ra, rb, e1, Result.andThen_ok]
        cases r1 <;> simp [e2]
      · simp at h
    · simp at h

theorem eqS_sound : ∀ d, EqOk P w ρ d (eqS P d)
  | 0 => by intro t x y c v u h; simp [eqS] at h
  | d + 1 => by
    intro t x y c v u h hx hy
    unfold eqS at h
    split at h
    · rename_i hu
      split at h
      · rename_i ka kb
        simp at h
        subst h
        obtain ⟨p, rfl, da⟩ := erel_bool (ρ := ρ) hx ka
        obtain ⟨q, rfl, db⟩ := erel_bool (ρ := ρ) hy kb
        exact ⟨p == q, by simp [Op.equalIn, run_underlying hu], mkBeq_rel da db⟩
      · simp at h
    · rename_i kk hu
      split at h
      · rename_i k k' ka kb
        split at h
        · rename_i hk
          obtain rfl := eqIK hk
          simp at h
          subst h
          obtain ⟨p, rfl, da, _⟩ := erel_int (ρ := ρ) hx ka
          obtain ⟨q, rfl, db, _⟩ := erel_int (ρ := ρ) hy kb
          exact ⟨p == q, by simp [Op.equalIn, run_underlying hu], mkCmp_rel .eql da db⟩
        · simp at h
      · simp at h
    · rename_i fs xs ys hu
      split at h
      · simp at h
      · rename_i hst
        obtain ⟨vs, rfl, rx⟩ := hx
        obtain ⟨us, rfl, ry⟩ := hy
        obtain ⟨b, e, k⟩ := eqFs_sound (eqS_sound d) rx ry fs.toList c h
        have hf : P.fieldsOf t = fs := by simp [Program.fieldsOf, hu]
        refine ⟨b, ?_, k⟩
        rw [run_equalIn_struct w d t vs.toArray us.toArray (by rw [hf]; exact hu) (by simpa using hst), hf]
        exact e
    · rename_i len e xs ys hu
      split at h
      · rename_i n hs
        obtain ⟨vs, rfl, rx⟩ := hx
        obtain ⟨us, rfl, ry⟩ := hy
        obtain ⟨b, r, k⟩ := eqEs_sound (eqS_sound d) rx ry e n len 0 c h
        unfold sizeT at hs
        cases hi : P.info? e with
        | none => simp [hi] at hs
        | some i =>
          have hc : P.cellsOf e = n := by simp [hi] at hs; simp [Program.cellsOf, hi, hs]
          refine ⟨b, ?_, k⟩
          rw [run_equalIn_array w d vs.toArray us.toArray hu hi, hc, List.range_eq_range']
          exact r
      · simp at h
    · simp at h

theorem run_eql_bool {t : TypeId} (p q : Bool) (h : P.underlying t = some .bool) : (binOp .eql t (.bool p) (.bool q)).run P w = .ok (.bool (p == q)) w := by
  have e := run_equalIn_bool' (P := P) w 9999 t p q h
  simp only [binOp, Sem.run_bind]
  show ((Op.equalIn (9999 + 1) t (.bool p) (.bool q)).run P w).andThen _ = _
  rw [e]
  rfl
theorem run_neq_bool {t : TypeId} (p q : Bool) (h : P.underlying t = some .bool) : (binOp .neq t (.bool p) (.bool q)).run P w = .ok (.bool (!(p == q))) w := by
  have e := run_equalIn_bool' (P := P) w 9999 t p q h
  simp only [binOp, Sem.run_bind]
  show ((Op.equalIn (9999 + 1) t (.bool p) (.bool q)).run P w).andThen _ = _
  rw [e]
  rfl

theorem binStep_sound {B : Nat} {H : List (Nat × Blk)} {e : Operand → Value} {o : Oper} {op : BinOp} {t yt : TypeId} {x y : Operand} {a b : SP} {r : Res} (ho : o.op = .binOp op t x y yt)
    (hx : PRel ρ a (e x)) (hy : PRel ρ b (e y)) (h : (binStep P op t a b).den = some r) : Eff P B ρ H w (execOp e o) r := by
  unfold binStep at h
  split at h
  · rename_i a b
    split at h
    · rename_i k k' ka kb
      obtain ⟨p, ep, da, p0, p1⟩ := erel_int (ρ := ρ) hx ka
      obtain ⟨q, eq, db, q0, q1⟩ := erel_int (ρ := ρ) hy kb
      obtain ⟨v, c, hr, rfl, hc⟩ := binE_sound (P := P) (w := w) (ρ := ρ) (t := t) da db p0 p1 q0 h
      exact ⟨v, exec_bin ho (by rw [ep, eqGuard_at_int]; rfl) (by rw [ep, eq]; exact hr), hc⟩
    · rename_i ka kb
      obtain ⟨p, ep, da⟩ := erel_bool (ρ := ρ) hx ka
      obtain ⟨q, eq, db⟩ := erel_bool (ρ := ρ) hy kb
      have hg : (eqGuard op t x y (e x) (e y)).run P w = .ok () w := by rw [ep, eqGuard_at_bool]; rfl
      split at h
      · rename_i hu
        obtain rfl := vE_some h
        exact ⟨.bool (p == q), exec_bin ho hg (by rw [ep, eq]; exact run_eql_bool p q hu), mkBeq_rel (ρ := ρ) da db⟩
      · rename_i hu
        obtain rfl := vE_some h
        exact ⟨.bool (!(p == q)), exec_bin ho hg (by rw [ep, eq]; exact run_neq_bool p q hu), mkNeg_rel (ρ := ρ) (mkBeq_rel (ρ := ρ) da db).1.symm⟩
      · simp [Tree.den] at h
    · rename_i ka kb
      obtain ⟨p, ep, da⟩ := erel_str (ρ := ρ) hx ka
      obtain ⟨q, eq, db⟩ := erel_str (ρ := ρ) hy kb
      have hg : (eqGuard op t x y (e x) (e y)).run P w = .ok () w := by rw [ep, eqGuard_at_string]; rfl
      split at h
      · obtain rfl := vE_some h
        exact ⟨.bool (eqStr p q), exec_bin ho hg (by rw [ep, eq, eqStr_eq]; simp [binOp, Op.stringOp]), mkSeq_rel (ρ := ρ) da db⟩
      · obtain rfl := vE_some h
        exact ⟨.bool (!(eqStr p q)), exec_bin ho hg (by rw [ep, eq, eqStr_eq]; simp [binOp, Op.stringOp]), mkNeg_rel (ρ := ρ) (mkSeq_rel (ρ := ρ) da db).1.symm⟩
      · simp [Tree.den] at h
    · simp [Tree.den] at h
  · rename_i xs ys
    split at h
    · simp [Tree.den] at h
    · rename_i hgt
      obtain ⟨vs, ev, rx⟩ := hx
      obtain ⟨us, eu, ry⟩ := hy
      have hg : (eqGuard op t x y (e x) (e y)).run P w = .ok () w := by rw [ev, eu]; exact run_eqGuard_agg w op t x y vs.toArray us.toArray (by simpa using hgt)
      split at h
      · rename_i c hc
        obtain rfl := vE_some h
        obtain ⟨b, hr, hk⟩ := eqS_sound (w := w) (ρ := ρ) 10000 t (.agg xs) (.agg ys) c _ _ hc ⟨vs, rfl, rx⟩ ⟨us, rfl, ry⟩
        exact ⟨.bool b, exec_bin ho hg (by rw [ev, eu, run_eql_struct, hr]; rfl), hk⟩
      · rename_i c hc
        obtain rfl := vE_some h
        obtain ⟨b, hr, hk⟩ := eqS_sound (w := w) (ρ := ρ) 10000 t (.agg xs) (.agg ys) c _ _ hc ⟨vs, rfl, rx⟩ ⟨us, rfl, ry⟩
        exact ⟨.bool (!b), exec_bin ho hg (by rw [ev, eu, run_neq_struct, hr]; rfl), mkNeg_rel (ρ := ρ) hk.1.symm⟩
      · simp [Tree.den] at h
  · simp [Tree.den] at h

/-! 'build' -/
theorem foldl_put : ∀ (vs : List Value) (cs : List Value) (off i : Nat), ((vs.zipIdx i).foldl (fun (cs : Array Value) (c, j) => cs.setIfInBounds (off + j) c) cs.toArray) = (putV cs (off + i) vs).toArray
  | [], _, _, _ => rfl
  | v :: vs, cs, off, i => by
    simp only [List.zipIdx_cons, List.foldl_cons, putV, List.setIfInBounds_toArray]
    exact foldl_put vs _ off (i + 1)
theorem fill_sound (place : Nat → Option (Nat × Nat)) : ∀ (ps : List (Nat × SP)) (us : List (Nat × Value)) (cs : List SC) (vs : List Value) (ds : List SC), CsRel ρ cs vs →
    (ps.length = us.length ∧ ∀ (i : Nat) (p : Nat × SP) (u : Nat × Value), ps[i]? = some p → us[i]? = some u → p.1 = u.1 ∧ PRel ρ p.2 u.2) → fillS place cs ps = some ds → ∃ ws : List Value, Instr.fill place vs.toArray us = some ws.toArray ∧ CsRel ρ ds ws
  | [], [], cs, vs, ds, h, _, hf => by simp [fillS] at hf; subst hf; exact ⟨vs, rfl, h⟩
  | [], _ :: _, _, _, _, _, hp, _ => by simp at hp
  | _ :: _, [], _, _, _, _, hp, _ => by simp at hp
  | (i, v) :: ps, (j, u) :: us, cs, vs, ds, h, hp, hf => by
    obtain ⟨hl, hp⟩ := hp
    obtain ⟨e, hv⟩ := hp 0 _ _ rfl rfl
    simp only at e hv
    subst e
    simp only [fillS] at hf
    split at hf
    · simp at hf
    · rename_i off size hpl
      split at hf
      · simp at hf
      · rename_i hc
        simp only [Bool.not_eq_true, Bool.or_eq_false_iff, Bool.not_eq_false'] at hc
        have hc1 := beq_len hc.1
        have hc2 : ¬ cs.length < off + v.cells.length := fun hlt => by have h2 := hc.2; rw [Nat.blt, Nat.ble_eq_true_of_le (by omega)] at h2; exact Bool.noConfusion h2
        have hcr := hv.cells
        have l1 := hcr.length
        have l2 := h.length
        obtain ⟨ws, hw, hr⟩ := fill_sound place ps us (putC cs off v.cells) (putV vs off u.cells.toList) ds (put_rel off h hcr) ⟨by simpa using hl, fun n p q h1 h2 => hp (n + 1) p q (by simpa using h1) (by simpa using h2)⟩ hf
        refine ⟨ws, ?_, hr⟩
        simp only [Instr.fill, hpl]
        rw [if_neg (by
          simp at l1 ⊢
          omega)]
        rw [← hw]
        congr 1
        have := foldl_put u.cells.toList vs off 0
        simp only [Nat.add_zero] at this
        rw [← this, ← Array.foldl_toList]
        simp

theorem getPs_sound {g : Get} {e : Operand → Value} (hg : ∀ x sv, g x = some sv → VRel ρ sv (e x)) : ∀ (l : List (Nat × Operand)) (ps : List (Nat × SP)), getPs g l = some ps →
    ps.length = (l.map fun (i, x) => (i, e x)).length ∧ ∀ (i : Nat) (p : Nat × SP) (u : Nat × Value), ps[i]? = some p → (l.map fun (i, x) => (i, e x))[i]? = some u → p.1 = u.1 ∧ PRel ρ p.2 u.2
  | [], ps, h => by simp [getPs] at h; subst h; simp
  | (i, x) :: l, ps, h => by
    simp only [getPs] at h
    split at h
    · rename_i v r hv hr
      simp at h
      subst h
      obtain ⟨h1, h2⟩ := getPs_sound hg l r hr
      refine ⟨by simpa using h1, fun n p u hp hu => ?_⟩
      cases n with
      | zero =>
        simp at hp hu
        subst hp hu
        refine ⟨rfl, ?_⟩
        unfold getP at hv
        split at hv
        · rename_i y hy
          simp at hv
          subst hv
          exact hg x _ hy
        · simp at hv
      | succ n => exact h2 n p u (by simpa using hp) (by simpa using hu)
    · simp at h

theorem placesS_spec : ∀ (fs : List Field) (pl : List (Nat × Nat)), placesS P fs = some pl → fs.mapM (fun f => (P.info? f.type).map fun i => (f.offset, i.size)) = some pl
  | [], pl, h => by simp [placesS] at h; subst h; rfl
  | f :: fs, pl, h => by
    simp only [placesS] at h
    split at h
    · rename_i n r hn hr
      simp at h
      subst h
      have ih := placesS_spec fs r hr
      unfold sizeT at hn
      cases hi : P.info? f.type with
      | none => simp [hi] at hn
      | some i => simp [hi] at hn; simp [List.mapM_cons, hi, ih, hn]
    · simp at h

/-! Indexes. -/
theorem splitI_den {e : SE} {k : IntKind} {n : Int} (he : e.den = .int k n) {mk : Nat → Tree Res} {r : Res} : ∀ (c i : Nat), (splitI e k mk i c).den = some r → ∃ j : Nat, j < i + c ∧ n = j ∧ (mk j).den = some r
  | 0, i, h => by simp [splitI, Tree.den] at h
  | c + 1, i, h => by
    simp only [splitI, Tree.den, SE.den, he, num, cmpB, tru] at h
    cases hb : (n == (i : Int)) with
    | true =>
      rw [hb] at h
      exact ⟨i, by omega, by simpa using hb, h⟩
    | false =>
      rw [hb] at h
      obtain ⟨j, h1, h2⟩ := splitI_den he c (i + 1) h
      exact ⟨j, by omega, h2⟩
theorem atI_den {e : SE} {v : Value} (he : CRel ρ (.e e) v) {len : Nat} {mk : Nat → Tree Res} {r : Res} (h : (atI e len mk).den = some r) : ∃ (k : IntKind) (j : Nat), v = .int k j ∧ j < len ∧ (mk j).den = some r := by
  unfold atI at h
  split at h
  · rename_i k j
    split at h
    · rename_i hc
      simp at hc
      have hd := he.1
      simp only [SE.den] at hd
      exact ⟨k, j.toNat, by rw [hd]; congr 1; omega, by omega, h⟩
    · simp [Tree.den] at h
  · split at h
    · rename_i k hk
      obtain ⟨n, e1, e2, _⟩ := erel_int (ρ := ρ) he hk
      obtain ⟨j, h1, h2, h3⟩ := splitI_den e2 len 0 h
      exact ⟨k, j, by rw [e1, h2], by omega, h3⟩
    · simp [Tree.den] at h

theorem repC_rel {zs : List SC} {vs : List Value} (h : CsRel ρ zs vs) (hz : 0 < vs.length) (n : Nat) : CsRel ρ (repC zs n) ((List.range n).map fun i => vs.toArray[i % vs.toArray.size]!) := by
  unfold repC
  generalize List.range n = l
  induction l with
  | nil => trivial
  | cons i l ih =>
    refine ⟨?_, ih⟩
    have hl := h.length
    have hi : i % vs.length < vs.length := Nat.mod_lt _ hz
    obtain ⟨v, hv, hr⟩ := h.get (i := i % vs.length) (c := zs.getD (i % vs.length) (.e (.lit (.bool false)))) (by
      rw [List.getD_eq_getElem?_getD, List.getElem?_eq_getElem (by omega)]; rfl)
    rw [hl]
    have e : vs.toArray[i % vs.toArray.size]! = v := by
      rw [List.size_toArray]
      simp [hv]
    show CRel ρ _ (vs.toArray[i % vs.toArray.size]!)
    rw [e]
    exact hr

section gets
variable {g : Get} {e : Operand → Value} (hg : ∀ x sv, g x = some sv → VRel ρ sv (e x))
include hg
theorem getP_rel {x : Operand} {p : SP} (h : getP g x = some p) : PRel ρ p (e x) := by
  unfold getP at h
  split at h
  · rename_i y hy; simp at h; subst h; exact hg x _ hy
  · simp at h
theorem getE_rel {x : Operand} {p : SE} (h : getE g x = some p) : CRel ρ (.e p) (e x) := by
  unfold getE at h
  split at h
  · rename_i y hy; simp at h; subst h; exact hg x _ hy
  · simp at h
theorem getA_rel {x : Operand} {p : Nat × Nat} (h : getA g x = some p) : ∃ n, ρ p.1 = some n ∧ e x = .pointer (some ⟨n, p.2, none⟩) := by
  unfold getA at h
  split at h
  · rename_i y hy; simp at h; subst h; exact hg x _ hy
  · simp at h
theorem getSl_rel {x : Operand} {p : Nat × Nat × Nat} (h : getSl g x = some p) : ∃ n cap, ρ p.1 = some n ∧ e x = .slice (some ⟨n, p.2.1, none⟩) p.2.2 cap := by
  unfold getSl at h
  split at h
  · rename_i n off len cap hy; simp at h; subst h; obtain ⟨m, h1, h2⟩ := hg x _ hy; exact ⟨m, cap, h1, h2⟩
  · simp at h
theorem getAs_rel : ∀ (l : List Operand) (caps : List (Nat × Nat)), getAs g l = some caps → CapsRel ρ caps (l.map e)
  | [], caps, h => by simp [getAs] at h; subst h; trivial
  | x :: l, caps, h => by
    simp only [getAs] at h
    split at h
    · rename_i v r hv hr
      simp at h
      subst h
      exact ⟨getA_rel hg hv, getAs_rel l r hr⟩
    · simp at h
theorem getSs_rel : ∀ (l : List Operand) (ss : List SV), getSs g l = some ss → VsRel ρ ss (l.map e)
  | [], caps, h => by simp [getSs] at h; subst h; trivial
  | x :: l, caps, h => by
    simp only [getSs] at h
    split at h
    · rename_i v r hv hr
      simp at h
      subst h
      exact ⟨hg x _ hv, getSs_rel l r hr⟩
    · simp at h

theorem fold_min (k : IntKind) : ∀ (l : List Operand) (acc r : SE) (x : Int), CRel ρ (.e acc) (.int k x) → acc.kind = some (.i k) → foldE (mkMn k) k g acc l = some r →
    ∃ y, ((l.map e).foldlM Builtin.min2 (.int k x)).run P w = .ok (.int k y) w ∧ CRel ρ (.e r) (.int k y)
  | [], acc, r, x, ha, _, h => by simp [foldE] at h; subst h; exact ⟨x, by simp, ha⟩
  | z :: l, acc, r, x, ha, hk, h => by
    simp only [foldE] at h
    split at h
    · rename_i y hy
      split at h
      · rename_i k' ky
        split at h
        · rename_i hkk
          obtain rfl := eqIK hkk
          obtain ⟨q, eq, dq, q0, q1⟩ := erel_int (ρ := ρ) (getE_rel hg hy) ky
          obtain ⟨p, ep, dp, p0, p1⟩ := erel_int (ρ := ρ) ha hk
          cases ep
          have hm := mkMn_rel (ρ := ρ) dp dq p0 p1 q0 q1
          obtain ⟨y', r1, r2⟩ := fold_min k' l _ r _ hm (by unfold mkMn; split <;> rfl) h
          refine ⟨y', ?_, r2⟩
          simp only [List.map_cons, List.foldlM_cons, eq, Builtin.min2, Sem.run_bind, Sem.run_pure, Result.andThen_ok]
          exact r1
        · simp at h
      · simp at h
    · simp at h
theorem fold_max (k : IntKind) : ∀ (l : List Operand) (acc r : SE) (x : Int), CRel ρ (.e acc) (.int k x) → acc.kind = some (.i k) → foldE (mkMx k) k g acc l = some r →
    ∃ y, ((l.map e).foldlM Builtin.max2 (.int k x)).run P w = .ok (.int k y) w ∧ CRel ρ (.e r) (.int k y)
  | [], acc, r, x, ha, _, h => by simp [foldE] at h; subst h; exact ⟨x, by simp, ha⟩
  | z :: l, acc, r, x, ha, hk, h => by
    simp only [foldE] at h
    split at h
    · rename_i y hy
      split at h
      · rename_i k' ky
        split at h
        · rename_i hkk
          obtain rfl := eqIK hkk
          obtain ⟨q, eq, dq, q0, q1⟩ := erel_int (ρ := ρ) (getE_rel hg hy) ky
          obtain ⟨p, ep, dp, p0, p1⟩ := erel_int (ρ := ρ) ha hk
          cases ep
          have hm := mkMx_rel (ρ := ρ) dp dq p0 p1 q0 q1
          obtain ⟨y', r1, r2⟩ := fold_max k' l _ r _ hm (by unfold mkMx; split <;> rfl) h
          refine ⟨y', ?_, r2⟩
          simp only [List.map_cons, List.foldlM_cons, eq, Builtin.max2, Sem.run_bind, Sem.run_pure, Result.andThen_ok]
          exact r1
        · simp at h
      · simp at h
    · simp at h
end gets

section whole
variable {g : Get} {e : Operand → Value} (hg : ∀ x sv, g x = some sv → VRel ρ sv (e x)) {B : Nat} {H : List (Nat × Blk)} (hH : HRel B ρ H w)
include hg hH
omit hg hH in
theorem eff_val {o : Oper} {r : Res} {sv : SV} {v : Value} (h : (Tree.ret (Res.val sv)).den = some r) (hr : (execOp e o).run P w = .ok (.value v) w) (hv : VRel ρ sv v) : Eff P B ρ H w (execOp e o) r := by
  simp [Tree.den] at h
  subst h
  exact ⟨v, hr, hv⟩

set_option maxHeartbeats 1000000 in
theorem pure_sound {o : Oper} {r : Res} (h : (pureStep P H g o.op).den = some r) : Eff P B ρ H w (execOp e o) r := by
  obtain ⟨dst, op, type, pos, after, guard⟩ := o
  simp only at h
  unfold pureStep at h
  split at h
  · -- move
    rename_i x
    split at h
    · rename_i v hv; exact eff_val h (by simp [execOp]) (hg _ _ hv)
    · simp [Tree.den] at h
  · -- assign
    rename_i x
    split at h
    · rename_i v hv; exact eff_val h (by simp [execOp]) (hg _ _ hv)
    · simp [Tree.den] at h
  · -- pick
    rename_i c a b
    split at h
    · rename_i hc
      have ec := (getE_rel hg hc).1
      simp only [SE.den] at ec
      split at h
      · rename_i v hv; exact eff_val h (by simp [execOp, ec, asBool]) (hg _ _ hv)
      · simp [Tree.den] at h
    · rename_i hc
      have ec := (getE_rel hg hc).1
      simp only [SE.den] at ec
      split at h
      · rename_i v hv; exact eff_val h (by simp [execOp, ec, asBool]) (hg _ _ hv)
      · simp [Tree.den] at h
    · rename_i c' _ _ hc
      split at h
      · rename_i u v hk hu hv
        obtain ⟨t, et, dt⟩ := erel_bool (ρ := ρ) (getE_rel hg hc) hk
        simp only [Tree.den, dt, tru] at h
        cases t with
        | true => exact eff_val h (by simp [execOp, et, asBool]) (hg _ _ hu)
        | false => exact eff_val h (by simp [execOp, et, asBool]) (hg _ _ hv)
      · simp [Tree.den] at h
    · simp [Tree.den] at h
  · -- alloc
    rename_i t
    split at h
    · rename_i v hz
      split at h
      · rename_i cs hc
        simp [Tree.den] at h
        subst h
        exact ⟨v.cells.toList, by simp [execOp, Instr.alloc, run_zero hz, newVar, newRow], ofCells_rel hc⟩
      · simp [Tree.den] at h
    · simp [Tree.den] at h
  · -- box
    rename_i t x
    split at h
    · rename_i v hv
      simp [Tree.den] at h
      subst h
      exact ⟨(e x).cells.toList, by simp [execOp, Instr.box, newVar, newRow], (getP_rel hg hv).cells⟩
    · simp [Tree.den] at h
  · -- build
    rename_i t parts
    split at h
    · rename_i z ps hz hp
      cases hi : P.info? t with
      | none => simp [hi] at hz
      | some it =>
        simp [hi] at hz
        split at h
        · rename_i zs fs hzs hu
          split at h
          · rename_i pl hpl
            split at h
            · rename_i cs hcs
              obtain ⟨ws, hw, hr⟩ := fill_sound (fun i => pl[i]?) ps _ zs z.cells.toList cs (ofCells_rel hzs) (getPs_sound hg parts.toList ps hp) hcs
              refine eff_val (v := .agg ws.toArray) h ?_ ⟨ws, rfl, hr⟩
              have hb : P.built t (parts.map fun (i, x) => (i, e x)).toList = some ws.toArray := by
                simp only [Program.built, hi, hu, hz, placesS_spec _ _ hpl]
                rw [← hw]
                simp
              simp only [execOp, Sem.run_bind, run_build w t _ _ hb, Result.andThen_ok, Sem.run_pure]
            · simp [Tree.den] at h
          · simp [Tree.den] at h
        · rename_i zs n el hzs hu
          split at h
          · rename_i n hs
            split at h
            · rename_i cs hcs
              obtain ⟨ws, hw, hr⟩ := fill_sound (fun i => some (i * n, n)) ps _ zs z.cells.toList cs (ofCells_rel hzs) (getPs_sound hg parts.toList ps hp) hcs
              refine eff_val (v := .agg ws.toArray) h ?_ ⟨ws, rfl, hr⟩
              have hb : P.built t (parts.map fun (i, x) => (i, e x)).toList = some ws.toArray := by
                unfold sizeT at hs
                cases hie : P.info? el with
                | none => simp [hie] at hs
                | some ie =>
                  simp [hie] at hs
                  subst hs
                  simp only [Program.built, hi, hu, hz, hie]
                  rw [← hw]
                  simp
              simp only [execOp, Sem.run_bind, run_build w t _ _ hb, Result.andThen_ok, Sem.run_pure]
            · simp [Tree.den] at h
          · simp [Tree.den] at h
        · simp [Tree.den] at h
    · simp [Tree.den] at h
  · -- load
    rename_i t x
    split at h
    · rename_i n off ha
      obtain ⟨q, hq, ex⟩ := getA_rel hg ha
      split at h
      · rename_i b hb
        split at h
        · rename_i p hp
          obtain ⟨v, hv, hr⟩ := run_loadVar (P := P) hH hb hq hp
          exact eff_val (v := v) h (by simp [execOp, Instr.loadAt, ex, Instr.sureAddr, hv]) hr
        · simp [Tree.den] at h
      · simp [Tree.den] at h
    · simp [Tree.den] at h
  · -- store
    rename_i t x y
    split at h
    · rename_i n off v ha hv
      obtain ⟨q, hq, ex⟩ := getA_rel hg ha
      split at h
      · rename_i b k hb hk
        split at h
        · rename_i hc
          simp only [Bool.and_eq_true] at hc
          have c1 := beq_len hc.1.2
          have c2 := Nat.le_of_ble_eq_true hc.2
          simp [Tree.den] at h
          subst h
          have hcr := (getP_rel hg hv).cells
          obtain ⟨w', h1, h2, h3, h4, h5⟩ := hH.store (P := P) (off := off) hb hq hc.1.1 (by omega) hcr
          have hl := hcr.length
          refine ⟨w', ?_, h2, h3, h4, q, b, hq, hb, h5⟩
          have hsz : ¬ (e y).cells.size ≠ k := by
            have : (e y).cells.toList.length = k := by omega
            simpa using this
          simp only [execOp, Instr.storeAt, ex, Instr.sureAddr, storeVar, Sem.run_bind, Sem.run_pure, Result.andThen_ok, run_size hk, Sem.run_ite, if_neg hsz]
          rw [h1]
          rfl
        · simp [Tree.den] at h
      · simp [Tree.den] at h
    · simp [Tree.den] at h
  · -- nilCheck
    rename_i x
    split at h
    · rename_i n off hx
      obtain ⟨q, hq, ex⟩ := hg _ _ hx
      exact eff_val (v := e x) h (by simp [execOp, ex]) (hg _ _ hx)
    · rename_i f c hx
      obtain ⟨q, hq, ex⟩ := hg _ _ hx
      exact eff_val (v := e x) h (by simp [execOp, ex]) (hg _ _ hx)
    · simp [Tree.den] at h
  · -- binOp
    rename_i bop t x y yt
    split at h
    · rename_i a b ha hb
      exact binStep_sound rfl (getP_rel hg ha) (getP_rel hg hb) h
    · simp [Tree.den] at h
  · -- neg
    rename_i xt x
    split at h
    · rename_i a ha
      split at h
      · rename_i k hk
        obtain rfl := vE_some h
        obtain ⟨n, en, dn, n0, n1⟩ := erel_int (ρ := ρ) (getE_rel hg ha) hk
        have hm : k.min ≤ 0 := by cases k <;> decide
        have hM : 0 ≤ k.max := by cases k <;> decide
        exact ⟨.int k (binI .sub k 0 n), by simp [execOp, en, Op.unary, Op.intArith, binI], mkBin_rel (ρ := ρ) .sub (a := .lit (.int k 0)) rfl dn hm hM⟩
      · simp [Tree.den] at h
    · simp [Tree.den] at h
  · -- not
    rename_i xt x
    split at h
    · rename_i a ha
      split at h
      · rename_i hk
        obtain rfl := vE_some h
        obtain ⟨n, en, dn⟩ := erel_bool (ρ := ρ) (getE_rel hg ha) hk
        exact ⟨.bool (!n), by simp [execOp, en, Op.unary], mkNeg_rel (ρ := ρ) dn⟩
      · simp [Tree.den] at h
    · simp [Tree.den] at h
  · -- convert
    rename_i src dst x
    split at h
    · rename_i k0 k a hs hd ha
      split at h
      · rename_i j hj
        obtain rfl := vE_some h
        obtain ⟨n, en, dn, n0, n1⟩ := erel_int (ρ := ρ) (getE_rel hg ha) hj
        exact ⟨.int k (k.wrap n), by simp [execOp, en, convert, run_underlying hs, run_underlying hd, Conv.intToInt], mkCv_rel (ρ := ρ) k dn n0 n1⟩
      · simp [Tree.den] at h
    · simp [Tree.den] at h
  · -- fieldAddr
    rename_i s x f
    split at h
    · rename_i fs n off hu ha
      obtain ⟨q, hq, ex⟩ := getA_rel hg ha
      split at h
      · rename_i fl hf
        split at h
        · rename_i m hs
          refine eff_val (v := .pointer (some ⟨q, off + fl.offset, none⟩)) h ?_ ⟨q, hq, rfl⟩
          simp [execOp, Instr.fieldAt, run_underlying hu, hf, ex, Instr.sureAddr, fieldPlace, run_size hs, addr_add]
        · simp [Tree.den] at h
      · simp [Tree.den] at h
    · simp [Tree.den] at h
  · -- field
    rename_i t x f
    split at h
    · rename_i fs cs hu hp
      obtain ⟨vs, ev, rv⟩ := getP_rel hg hp
      split at h
      · rename_i fl hf
        split at h
        · rename_i p hpp
          obtain ⟨v, hv, hr⟩ := run_part (P := P) (w := w) hpp rv
          exact eff_val (v := v) h (by simp [execOp, Instr.field, run_underlying hu, hf, ev, asAgg, hv]) hr
        · simp [Tree.den] at h
      · simp [Tree.den] at h
    · simp [Tree.den] at h
  · -- indexAddr
    rename_i t x i
    split at h
    · rename_i len el j hu hi
      split at h
      · rename_i n off s ha hs
        obtain ⟨q, hq, ex⟩ := getA_rel hg ha
        obtain ⟨k, m, ei, hm, hr⟩ := atI_den (getE_rel hg hi) h
        refine eff_val (v := .pointer (some ⟨q, off + m * s, none⟩)) hr ?_ ⟨q, hq, rfl⟩
        simp [execOp, Instr.indexAt, run_underlying hu, ex, ei, asIntOf, Instr.sureAddr, hm, run_size hs, addr_add]
      · simp [Tree.den] at h
    · rename_i el j hu hi
      split at h
      · rename_i n off len s ha hs
        obtain ⟨q, cap, hq, ex⟩ := getSl_rel hg ha
        obtain ⟨k, m, ei, hm, hr⟩ := atI_den (getE_rel hg hi) h
        refine eff_val (v := .pointer (some ⟨q, off + m * s, none⟩)) hr ?_ ⟨q, hq, rfl⟩
        simp [execOp, Instr.indexAt, run_underlying hu, ex, ei, asIntOf, hm, run_size hs, addr_add]
      · simp [Tree.den] at h
    · simp [Tree.den] at h
  · -- index
    rename_i t x i
    split at h
    · rename_i len el cs j hu hp hi
      obtain ⟨vs, ev, rv⟩ := getP_rel hg hp
      split at h
      · rename_i s hs
        obtain ⟨k, m, ei, hm, hr⟩ := atI_den (getE_rel hg hi) h
        split at hr
        · rename_i p hpp
          obtain ⟨v, hv, hrr⟩ := run_part (P := P) (w := w) hpp rv
          exact eff_val (v := v) hr (by simp [execOp, Instr.index, run_underlying hu, ev, ei, asIntOf, hm, run_size hs, hv]) hrr
        · simp [Tree.den] at hr
      · simp [Tree.den] at h
    · simp [Tree.den] at h
  · -- buildSlice
    rename_i t len parts
    split at h
    · rename_i el ps hu hp
      split at h
      · rename_i n z hs hz
        split at h
        · rename_i hc
          simp only [Bool.and_eq_true] at hc
          have c1 := Nat.le_of_ble_eq_true hc.1
          have c2 : 0 < len := Nat.le_of_ble_eq_true hc.2
          split at h
          · rename_i zs hzs
            split at h
            · rename_i hlz
              have hlz := beq_len hlz
              split at h
              · rename_i cs hcs
                simp [Tree.den] at h
                subst h
                have hzr : CsRel ρ zs z.cells.toList := ofCells_rel hzs
                have hzl := hzr.length
                obtain ⟨ws, hw, hr⟩ := fill_sound (fun i => some (i * (n + 1), n + 1)) ps _ _ _ cs (repC_rel hzr (by omega) (len * (n + 1))) (getPs_sound hg parts.toList ps hp) hcs
                refine ⟨ws, ?_, hr⟩
                have hne : ¬ (len * (n + 1) = 0) := Nat.ne_of_gt (Nat.mul_pos c2 (Nat.succ_pos n))
                have hle : ¬ (len * (n + 1) > 2 ^ 24) := by omega
                have hfill : Instr.fill (fun i => some (i * (n + 1), n + 1)) ((Array.range (len * (n + 1))).map (z.cells[· % z.cells.size]!)) (parts.map fun (i, x) => (i, e x)).toList = some ws.toArray := by
                  rw [← hw]
                  congr 1
                  · apply Array.ext'
                    simp [Array.toList_range]
                  · simp
                simp only [execOp, Instr.buildSlice, Sem.run_bind, run_underlying hu, Result.andThen_ok, run_size hs, Sem.run_ite, if_neg hle, if_neg hne, Sem.run_pure, run_zero hz]
                rw [hfill]
                simp [newRow]
              · simp [Tree.den] at h
            · simp [Tree.den] at h
          · simp [Tree.den] at h
        · simp [Tree.den] at h
      · simp [Tree.den] at h
    · simp [Tree.den] at h
  · -- extract
    rename_i x i
    split at h
    · rename_i xs hx
      obtain ⟨vs, ev, rv⟩ := hg _ _ hx
      split at h
      · rename_i p hp
        obtain ⟨v, hv, hr⟩ := rv.get hp
        exact eff_val (v := v) h (by simp [execOp, Instr.extract, ev, hv]) hr
      · simp [Tree.den] at h
    · simp [Tree.den] at h
  · -- makeFunc
    rename_i f first captured
    split at h
    · rename_i caps hf hc
      have hfirst : first = #[] := by simpa using hf
      exact eff_val (v := .func (.func f) #[] (captured.map e)) h (by simp [execOp, Instr.makeFunc, hfirst]) ⟨captured.toList.map e, getAs_rel hg _ _ hc, by rw [← Array.toList_map]⟩
    · simp [Tree.den] at h
  · -- a builtin
    rename_i c
    obtain ⟨callee, args, argTypes⟩ := c
    simp only at h
    split at h
    · -- min
      unfold minmax at h
      split at h
      · rename_i x l hargs
        split at h
        · rename_i a ha
          split at h
          · rename_i k hk
            split at h
            · rename_i r' hr
              obtain rfl := vE_some h
              obtain ⟨n, en, dn, n0, n1⟩ := erel_int (ρ := ρ) (getE_rel hg ha) hk
              have hcr : CRel ρ (.e a) (.int k n) := by rw [← en]; exact getE_rel hg ha
              obtain ⟨y, hy, hc⟩ := fold_min (P := P) (w := w) hg k l a r' n hcr hk hr
              refine ⟨.int k y, ?_, hc⟩
              have hal : args.toList.map e = .int k n :: l.map e := by rw [hargs]; simp [en]
              simp [execOp, resolve, invoke, builtin, Builtin.min_, hal, hy]
            · simp [Tree.den] at h
          · simp [Tree.den] at h
        · simp [Tree.den] at h
      · simp [Tree.den] at h
    · -- max
      unfold minmax at h
      split at h
      · rename_i x l hargs
        split at h
        · rename_i a ha
          split at h
          · rename_i k hk
            split at h
            · rename_i r' hr
              obtain rfl := vE_some h
              obtain ⟨n, en, dn, n0, n1⟩ := erel_int (ρ := ρ) (getE_rel hg ha) hk
              have hcr : CRel ρ (.e a) (.int k n) := by rw [← en]; exact getE_rel hg ha
              obtain ⟨y, hy, hc⟩ := fold_max (P := P) (w := w) hg k l a r' n hcr hk hr
              refine ⟨.int k y, ?_, hc⟩
              have hal : args.toList.map e = .int k n :: l.map e := by rw [hargs]; simp [en]
              simp [execOp, resolve, invoke, builtin, Builtin.max_, hal, hy]
            · simp [Tree.den] at h
          · simp [Tree.den] at h
        · simp [Tree.den] at h
      · simp [Tree.den] at h
    · -- len
      split at h
      · rename_i t x ht hx
        split at h
        · rename_i n el hu
          split at h
          · rename_i hle
            obtain rfl := vE_some h
            have hn := Nat.le_of_ble_eq_true hle
            have hat : argTypes = #[t] := by cases argTypes; simp at ht; simp [ht]
            have har : args = #[x] := by cases args; simp at hx; simp [hx]
            subst hat har
            refine ⟨.int .i64 n, ?_, rfl, .i .i64, rfl, n, rfl, ?_⟩
            · simp [execOp, resolve, invoke, builtin, Builtin.len_, run_underlying hu, goInt]
            · constructor
              · have : IntKind.i64.min ≤ 0 := by decide
                omega
              · have : (1000000 : Int) ≤ IntKind.i64.max := by decide
                omega
          · simp [Tree.den] at h
        · rename_i el hu
          split at h
          · rename_i q1 q2 n hsl
            split at h
            · rename_i hle
              obtain rfl := vE_some h
              have hn := Nat.le_of_ble_eq_true hle
              have hat : argTypes = #[t] := by cases argTypes; simp at ht; simp [ht]
              have har : args = #[x] := by cases args; simp at hx; simp [hx]
              subst hat har
              obtain ⟨q, cap, _, ex⟩ := getSl_rel hg hsl
              refine ⟨.int .i64 n, ?_, rfl, .i .i64, rfl, n, rfl, ?_⟩
              · simp [execOp, resolve, invoke, builtin, Builtin.len_, run_underlying hu, goInt, ex]
              · constructor
                · have : IntKind.i64.min ≤ 0 := by decide
                  omega
                · have : (1000000 : Int) ≤ IntKind.i64.max := by decide
                  omega
            · simp [Tree.den] at h
          · simp [Tree.den] at h
        · simp [Tree.den] at h
      · simp [Tree.den] at h
    · simp [Tree.den] at h
  · simp [Tree.den] at h
end whole
end
end Go.Proofs.YtiooegkbkahppaaDoor
