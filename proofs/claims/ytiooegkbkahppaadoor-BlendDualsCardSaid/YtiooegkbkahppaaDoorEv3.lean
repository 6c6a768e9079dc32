/- The symbolic evaluator: one operation is sound. No condition. -/
import Derived.Test.YtiooegkbkahppaaDoorEv2
namespace Go.Proofs.YtiooegkbkahppaaDoor
open Go.RowKit

structure HRel (B : Nat) (ρ : Rho) (H : List (Nat × Blk)) (w : World) : Prop where
  lt : ∀ n x, ρ n = some x → x < w.heap.size
  inj : ∀ n m x, ρ n = some x → ρ m = some x → n = m
  blk : ∀ n b x, find H n = some b → ρ n = some x → (b.own = true → B ≤ x) ∧ ∃ vs : List Value, w.heap[x]? = some (.cells vs.toArray b.elem (0, 0)) ∧ CsRel ρ b.cells vs

section
variable {P : Program} {w : World}

theorem run_size {t n : Nat} (h : sizeT P t = some n) : (sizeOf t).run P w = .ok n w := by
  unfold sizeT at h
  cases hi : P.info? t with
  | none => simp [hi] at h
  | some i => simp [hi] at h; subst h; simp [sizeOf, typeInfo, hi]
theorem run_agg {t : Nat} {b : Bool} (h : aggT P t = some b) : (isAgg t).run P w = .ok b w := by
  unfold aggT at h
  cases hu : P.underlying t with
  | none => simp [hu] at h
  | some d =>
    simp only [isAgg, Sem.run_bind, run_underlying hu, Result.andThen_ok]
    cases d <;> simp [hu] at h <;> subst h <;> rfl
theorem run_zero {t : Nat} {v : Value} (h : (P.info? t).bind (·.zero) = some v) : (zeroValue t).run P w = .ok v w := by
  cases hi : P.info? t with
  | none => simp [hi] at h
  | some i =>
    simp [hi] at h
    simp [zeroValue, typeInfo, hi, h]

theorem beq_len {n m : Nat} (h : Nat.beq n m = true) : n = m := Nat.eq_of_beq_eq_true h

theorem takeC_spec {cs r : List SC} {off n : Nat} (h : takeC cs off n = some r) : r = (cs.drop off).take n ∧ r.length = n := by
  simp only [takeC] at h
  split at h
  · rename_i hb
    simp at h
    exact ⟨h.symm, by rw [← h]; exact beq_len hb⟩
  · simp at h

theorem run_part {ρ : Rho} {t off : Nat} {cs : List SC} {vs : List Value} {p : SP} (h : partS P t cs off = some p) (hr : CsRel ρ cs vs) :
    ∃ v, (Go.part t vs.toArray off).run P w = .ok v w ∧ PRel ρ p v := by
  unfold partS at h
  cases ha : aggT P t with
  | none => simp [ha] at h
  | some b =>
    cases b with
    | true =>
      cases hs : sizeT P t with
      | none => simp [ha, hs] at h
      | some n =>
        simp only [ha, hs] at h
        cases ht : takeC cs off n with
        | none => simp [ht] at h
        | some r =>
          simp [ht] at h
          subst h
          obtain ⟨rfl, _⟩ := takeC_spec ht
          refine ⟨.agg ((vs.drop off).take n).toArray, ?_, (vs.drop off).take n, rfl, (hr.drop off).take n⟩
          simp only [Go.part, Sem.run_bind, run_agg ha, run_size hs, Result.andThen_ok, if_true, Sem.run_pure]
          congr 2
          simp
    | false =>
      simp only [ha] at h
      cases hc : cs[off]? with
      | none => simp [hc] at h
      | some c =>
        simp [hc] at h
        subst h
        obtain ⟨v, hv, hcr⟩ := hr.get hc
        refine ⟨v, ?_, hcr⟩
        simp [Go.part, run_agg ha, hv]

theorem cell_of {x off : Nat} {vs : List Value} {t : TypeId} {fr : Nat × Nat} (h : w.heap[x]? = some (.cells vs.toArray t fr)) : w.cell? ⟨x, off, none⟩ = vs[off]? := by
  simp [World.cell?, h]

theorem addr_add (b o n : Nat) : Addr.add ⟨b, o, none⟩ n = ⟨b, o + n, none⟩ := by
  unfold Addr.add
  split
  · rename_i h; subst h; rfl
  · rfl

theorem run_loadVar {B : Nat} {ρ : Rho} {H : List (Nat × Blk)} {t n x off : Nat} {b : Blk} {p : SP} (hH : HRel B ρ H w) (hb : find H n = some b) (hx : ρ n = some x) (h : partS P t b.cells off = some p) :
    ∃ v, (loadVar t ⟨x, off, none⟩).run P w = .ok v w ∧ PRel ρ p v := by
  obtain ⟨_, vs, hcell, hr⟩ := hH.blk n b x hb hx
  unfold partS at h
  cases ha : aggT P t with
  | none => simp [ha] at h
  | some g =>
    cases g with
    | true =>
      cases hs : sizeT P t with
      | none => simp [ha, hs] at h
      | some n =>
        simp only [ha, hs] at h
        cases ht : takeC b.cells off n with
        | none => simp [ht] at h
        | some r =>
          simp [ht] at h
          subst h
          obtain ⟨hr', hlen⟩ := takeC_spec ht
          have hl : ((vs.drop off).take n).length = n := by
            have := ((hr.drop off).take n).length
            rw [← this, ← hr', hlen]
          refine ⟨.agg ((vs.drop off).take n).toArray, ?_, (vs.drop off).take n, rfl, by rw [hr']; exact (hr.drop off).take n⟩
          have hld := run_loadCells_list (P := P) w ⟨x, off, none⟩ ((vs.drop off).take n) (fun j v hj => by
            rw [addr_add, cell_of hcell]
            rw [List.getElem?_take] at hj
            split at hj
            · rw [List.getElem?_drop] at hj; exact hj
            · simp at hj)
          rw [hl] at hld
          simp only [loadVar, Sem.run_bind, run_agg ha, run_size hs, Result.andThen_ok, if_true, Sem.run_pure, hld]
    | false =>
      simp only [ha] at h
      cases hc : b.cells[off]? with
      | none => simp [hc] at h
      | some c =>
        simp [hc] at h
        subst h
        obtain ⟨v, hv, hcr⟩ := hr.get hc
        refine ⟨v, ?_, hcr⟩
        simp [loadVar, run_agg ha, cell_of hcell, hv]

/-- Cells off, off + 1 .. replaced. -/
def putV (cs : List Value) (off : Nat) : List Value → List Value
  | [] => cs
  | c :: new => putV (cs.set off c) (off + 1) new
theorem putV_length : ∀ (new cs : List Value) (off : Nat), (putV cs off new).length = cs.length
  | [], _, _ => rfl
  | _ :: new, _, _ => by simp [putV, putV_length new]
theorem put_rel {ρ : Rho} : ∀ {new : List SC} {us : List Value} {cs : List SC} {vs : List Value} (off : Nat), CsRel ρ cs vs → CsRel ρ new us → CsRel ρ (putC cs off new) (putV vs off us)
  | [], [], _, _, _, h, _ => h
  | _ :: _, _ :: _, _, _, off, h, ⟨a, k⟩ => put_rel (off + 1) (h.set off a) k
  | [], _ :: _, _, _, _, _, h => h.elim
  | _ :: _, [], _, _, _, _, h => h.elim

theorem CsRel.ones {ρ : Rho} : ∀ {cs : List SC} {vs : List Value}, CsRel ρ cs vs → ∀ v ∈ vs, v.oneCell' = true
  | [], [], _, _, h => by simp at h
  | _ :: _, _ :: _, ⟨a, k⟩, v, h => by
    rcases List.mem_cons.1 h with rfl | h
    · exact a.one
    · exact CsRel.ones k v h
  | [], _ :: _, h, _, _ => h.elim
  | _ :: _, [], h, _, _ => h.elim

theorem setCell_heap (w : World) (x o : Nat) (vs : List Value) (t : TypeId) (v : Value) (h : w.heap[x]? = some (.cells vs.toArray t (0, 0))) :
    (w.setCell ⟨x, o, none⟩ v).heap[x]? = some (.cells (vs.set o v).toArray t (0, 0)) := by
  have hlt : x < w.heap.size := (Array.getElem?_eq_some_iff.1 h).1
  simp only [World.setCell, Array.getElem?_modify, if_true, h, Option.map_some]
  simp

theorem run_storeCells (x off : Nat) (t : TypeId) : ∀ (new : List Value) (i : Nat) (w : World) (vs : List Value), w.heap[x]? = some (.cells vs.toArray t (0, 0)) → off + i + new.length ≤ vs.length → (∀ v ∈ new, v.oneCell' = true) →
    ∃ w', (storeCells ⟨x, off, none⟩ new i).run P w = .ok () w' ∧ w'.heap[x]? = some (.cells (putV vs (off + i) new).toArray t (0, 0)) ∧ (∀ y, y ≠ x → w'.heap[y]? = w.heap[y]?) ∧ w'.heap.size = w.heap.size ∧ w'.os = w.os ∧ w'.tape = w.tape ∧ w'.output = w.output
  | [], i, w, vs, h, _, _ => ⟨w, by simp [storeCells], h, fun _ _ => rfl, rfl, rfl, rfl, rfl⟩
  | v :: new, i, w, vs, h, hl, ho => by
    simp only [List.length_cons] at hl
    have hone := ho v (by simp)
    obtain ⟨w', h1, h2, h3, h4, h5, h6, h7⟩ := run_storeCells x off t new (i + 1) (w.setCell ⟨x, off + i, none⟩ v) (vs.set (off + i) v) (setCell_heap w x (off + i) vs t v h) (by simp; omega) (fun u hu => ho u (by simp [hu]))
    refine ⟨w', ?_, ?_, fun y hy => ?_, ?_, h5, h6, h7⟩
    · have hc : w.cell? ⟨x, off + i, none⟩ = some (vs[off + i]'(by omega)) := by rw [cell_of h]; exact List.getElem?_eq_getElem (by omega)
      have hf : w.frozen? ⟨x, off + i, none⟩ = false := by simp [World.frozen?, h]
      simp only [storeCells, Sem.run_bind, addr_add, run_store P w _ v _ hone, hc, hf]
      exact h1
    · rw [h2]; rfl
    · rw [h3 y hy]; simp only [World.setCell, Array.getElem?_modify]; rw [if_neg (fun e => hy e.symm)]
    · rw [h4]; simp [World.setCell]

theorem find_upd : ∀ (H : List (Nat × Blk)) (n m : Nat) (cs : List SC) (b : Blk), find (upd H n cs) m = some b → (m = n ∧ ∃ b0, find H n = some b0 ∧ b = { b0 with cells := cs }) ∨ (m ≠ n ∧ find H m = some b)
  | [], _, _, _, _, h => by simp [upd, find] at h
  | (k, x) :: H, n, m, cs, b, h => by
    simp only [upd] at h
    cases hkn : Nat.beq k n with
    | true =>
      have ekn := beq_len hkn
      subst ekn
      simp only [hkn, if_true, find] at h ⊢
      cases hkm : Nat.beq k m with
      | true =>
        have ekm := beq_len hkm
        subst ekm
        simp only [hkm, if_true] at h
        simp at h
        exact .inl ⟨rfl, x, rfl, h.symm⟩
      | false =>
        simp only [hkm] at h
        exact .inr ⟨fun e => by subst e; rw [hkn] at hkm; exact Bool.noConfusion hkm, by simpa using h⟩
    | false =>
      simp only [hkn] at h
      simp only [find] at h ⊢
      cases hkm : Nat.beq k m with
      | true =>
        have ekm := beq_len hkm
        subst ekm
        simp only [Bool.false_eq_true, if_false, find, hkm, if_true] at h
        refine .inr ⟨fun e => by subst e; rw [hkn] at hkm; exact Bool.noConfusion hkm, by simpa using h⟩
      | false =>
        simp only [Bool.false_eq_true, if_false, find, hkm] at h
        simpa [hkn] using find_upd H n m cs b h

theorem HRel.store {B : Nat} {ρ : Rho} {H : List (Nat × Blk)} {n x : Nat} {b : Blk} {off : Nat} {new : List SC} {us : List Value} (hH : HRel B ρ H w) (hb : find H n = some b) (hx : ρ n = some x) (ho : b.own = true)
    (hl : off + new.length ≤ b.cells.length) (hn : CsRel ρ new us) : ∃ w', (storeCells ⟨x, off, none⟩ us).run P w = .ok () w' ∧ HRel B ρ (upd H n (putC b.cells off new)) w' ∧ Below B w w' ∧ w'.heap.size = w.heap.size ∧ ∀ y, y ≠ x → w'.heap[y]? = w.heap[y]? := by
  obtain ⟨hB, vs, hcell, hr⟩ := hH.blk n b x hb hx
  have l1 := hr.length
  have l2 := hn.length
  obtain ⟨w', h1, h2, h3, h4, h5, h6, h7⟩ := run_storeCells (P := P) x off b.elem us 0 w vs hcell (by omega) hn.ones
  refine ⟨w', h1, ⟨fun n x h => by rw [h4]; exact hH.lt n x h, hH.inj, fun m c y hm hy => ?_⟩, ⟨h5, h6, h7, by omega, fun k hk => h3 k (by have := hB ho; omega)⟩, h4, h3⟩
  rcases find_upd H n m _ c hm with ⟨rfl, b0, hb0, rfl⟩ | ⟨hne, hm'⟩
  · rw [hb] at hb0
    cases hb0
    rw [hx] at hy
    cases hy
    exact ⟨hB, _, h2, put_rel off hr hn⟩
  · obtain ⟨q0, q1, q2, q3⟩ := hH.blk m c y hm' hy
    refine ⟨q0, q1, ?_, q3⟩
    rw [h3 y (fun e => hne (hH.inj m n y hy (by rw [hx, e])))]
    exact q2
end

/-! The arithmetic of the model. -/
section
variable {P : Program} {w : World} {ρ : Rho}

def Eff (P : Program) (B : Nat) (ρ : Rho) (H : List (Nat × Blk)) (w : World) (s : Sem Next) : Res → Prop
  | .val sv => ∃ v, s.run P w = .ok (.value v) w ∧ VRel ρ sv v
  | .blk cs t => ∃ vs : List Value, s.run P w = .ok (.value (.pointer (some ⟨w.heap.size, 0, none⟩))) (w.alloc (.cells vs.toArray t)) ∧ CsRel ρ cs vs
  | .sl cs t len => ∃ vs : List Value, s.run P w = .ok (.value (.slice (some ⟨w.heap.size, 0, none⟩) len len)) (w.alloc (.cells vs.toArray t)) ∧ CsRel ρ cs vs
  | .st n cs off new => ∃ w', s.run P w = .ok .skip w' ∧ HRel B ρ (upd H n (putC cs off new)) w' ∧ Below B w w' ∧ w'.heap.size = w.heap.size ∧ ∃ x b, ρ n = some x ∧ find H n = some b ∧ ∀ y, y ≠ x → w'.heap[y]? = w.heap[y]?

theorem vE_some {x : SE} {r : Res} (h : (vE x).den = some r) : r = .val (.p (.c (.e x))) := by simp [vE, Tree.den] at h; exact h.symm

theorem run_shift (op : BinOp) (hop : op = .shl ∨ op = .shr) (t : TypeId) (k k' : IntKind) (x y : Int) (hy : 0 ≤ y) : (binOp op t (.int k x) (.int k' y)).run P w = .ok (.int k (binI op k x y)) w := by
  rcases hop with rfl | rfl <;> simp [binOp, Op.shift, binI, show ¬ y < 0 by omega]

theorem run_arith (op : BinOp) (hop : op = .add ∨ op = .sub ∨ op = .mul ∨ op = .and ∨ op = .or ∨ op = .xor ∨ op = .andNot) (t : TypeId) (k : IntKind) (x y : Int) : (binOp op t (.int k x) (.int k y)).run P w = .ok (.int k (binI op k x y)) w := by
  rcases hop with rfl | rfl | rfl | rfl | rfl | rfl | rfl <;> simp [binOp, Op.intArith, Op.intBits, binI, bits]

theorem run_div (op : BinOp) (hop : op = .quo ∨ op = .rem) (t : TypeId) (k : IntKind) (x y : Int) (hy : y ≠ 0) : (binOp op t (.int k x) (.int k y)).run P w = .ok (.int k (binI op k x y)) w := by
  rcases hop with rfl | rfl <;> simp [binOp, Op.intDiv, binI, hy]

theorem run_cmp (op : BinOp) (hop : isCmp op = true) (t : TypeId) (k : IntKind) (x y : Int) : (binOp op t (.int k x) (.int k y)).run P w = .ok (.bool (cmpB op x y)) w := by
  cases op <;> simp [isCmp] at hop <;> simp [binOp, Op.intCmp, cmpB]

/-- The run of a binary operation, behind its guard. -/
theorem exec_bin {e : Operand → Value} {o : Oper} {op : BinOp} {t yt : TypeId} {x y : Operand} {v : Value} (ho : o.op = .binOp op t x y yt) (hg : (eqGuard op t x y (e x) (e y)).run P w = .ok () w) (h : (binOp op t (e x) (e y)).run P w = .ok v w) :
    (execOp e o).run P w = .ok (.value v) w := by
  simp only [execOp, ho, Sem.run_bind, hg, h, Result.andThen_ok, Sem.run_pure]

theorem binE_sound {op : BinOp} {t : TypeId} {k k' : IntKind} {a b : SE} {x y : Int} {r : Res} (da : a.den = .int k x) (db : b.den = .int k' y) (a0 : k.min ≤ x) (a1 : x ≤ k.max) (b0 : k'.min ≤ y)
    (hh : (binE op k k' a b).den = some r) : ∃ v c, (binOp op t (.int k x) (.int k' y)).run P w = .ok v w ∧ r = .val (.p (.c (.e c))) ∧ CRel ρ (.e c) v := by
  have hsh : ∀ op, (op = .shl ∨ op = .shr) → (if shiftOk k' b = true then vE (mkBin op k a b) else .fail).den = some r → ∃ v c, (binOp op t (.int k x) (.int k' y)).run P w = .ok v w ∧ r = .val (.p (.c (.e c))) ∧ CRel ρ (.e c) v := by
    intro op hop h
    split at h
    · rename_i hs
      have hy : 0 ≤ y := by
        simp only [shiftOk, Bool.or_eq_true] at hs
        rcases hs with hs | hs
        · cases k' <;> simp [unsg] at hs <;> exact b0
        · split at hs
          · simp [SE.den] at db
            obtain ⟨_, rfl⟩ := db
            simpa using hs
          · simp at hs
      exact ⟨_, _, run_shift op hop t k k' x y hy, vE_some h, mkBin_rel op da db a0 a1⟩
    · simp [Tree.den] at h
  have har : ∀ op, (op = .add ∨ op = .sub ∨ op = .mul ∨ op = .and ∨ op = .or ∨ op = .xor ∨ op = .andNot) → (if binEqIK k k' = true then vE (mkBin op k a b) else .fail).den = some r → ∃ v c, (binOp op t (.int k x) (.int k' y)).run P w = .ok v w ∧ r = .val (.p (.c (.e c))) ∧ CRel ρ (.e c) v := by
    intro op hop h
    split at h
    · rename_i hk
      obtain rfl := eqIK hk
      exact ⟨_, _, run_arith op hop t k' x y, vE_some h, mkBin_rel op da db a0 a1⟩
    · simp [Tree.den] at h
  have hdv : ∀ op, (op = .quo ∨ op = .rem) → (if binEqIK k k' = true then
      (match b with
      | .lit (.int _ n) => if decide (n = 0) then Tree.fail else vE (mkBin op k a b)
      | b => Tree.ite (.cmp .eql b (.lit (.int k 0))) Tree.fail (vE (mkBin op k a b)))
    else Tree.fail).den = some r → ∃ v c, (binOp op t (.int k x) (.int k' y)).run P w = .ok v w ∧ r = .val (.p (.c (.e c))) ∧ CRel ρ (.e c) v := by
    intro op hop h
    split at h
    · rename_i hk
      obtain rfl := eqIK hk
      split at h
      · split at h
        · simp [Tree.den] at h
        · rename_i hz
          have hn := db
          simp [SE.den] at hn
          obtain ⟨_, rfl⟩ := hn
          exact ⟨_, _, run_div op hop t k' x _ (by simpa using hz), vE_some h, mkBin_rel op da db a0 a1⟩
      · simp only [Tree.den, SE.den, db, num, tru, cmpB] at h
        cases hz : (y == 0) with
        | true => simp [hz] at h
        | false =>
          simp only [hz, cond_false] at h
          exact ⟨_, _, run_div op hop t k' x _ (by simpa using hz), vE_some h, mkBin_rel op da db a0 a1⟩
    · simp [Tree.den] at h
  have hcm : ∀ op, (if (isCmp op && binEqIK k k') = true then vE (mkCmp op a b) else .fail).den = some r → ∃ v c, (binOp op t (.int k x) (.int k' y)).run P w = .ok v w ∧ r = .val (.p (.c (.e c))) ∧ CRel ρ (.e c) v := by
    intro op h
    split at h
    · rename_i hk
      simp only [Bool.and_eq_true] at hk
      obtain rfl := eqIK hk.2
      exact ⟨_, _, run_cmp op hk.1 t k' x y, vE_some h, mkCmp_rel op da db⟩
    · simp [Tree.den] at h
  cases op <;> simp only [binE] at hh <;> first
    | exact hsh _ (by simp) hh
    | exact har _ (by simp) hh
    | exact hdv _ (by simp) hh
    | exact hcm _ hh
end
end Go.Proofs.YtiooegkbkahppaaDoor
