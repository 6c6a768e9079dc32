/- The symbolic evaluator: one operation inside the walk, calls included. No condition. -/
import Derived.Test.YtiooegkbkahppaaDoorEv5
namespace Go.Proofs.YtiooegkbkahppaaDoor
open Go.RowKit

def Xt.to : Xt → Exit
  | .normal => .normal
  | .exit id => .exit id
  | .ret => .ret

/-- What the evaluator of smaller fuel is good for. -/
def RecOK (P : Program) (I : World → Prop) (rec : Rec) : Prop :=
  ∀ c s x s', (rec c s).den = some (x, s') → ∀ (B : Nat) (w0 : World) (ρ : Rho) (a : Act) (w : World) (Q : Exit → Act → World → Prop), B ≤ w0.heap.size → (∀ w, Below B w0 w → I w) → StRel B w0 ρ s a w →
    (∀ ρ' a' w', Ext ρ ρ' → StRel B w0 ρ' s' a' w' → Q x.to a' w') → c.wp P Q a w

section
variable {P : Program} {I : World → Prop} {rec : Rec} (hrec : RecOK P I rec) {B : Nat} {w0 : World} (hB : B ≤ w0.heap.size) (hI : ∀ w, Below B w0 w → I w)
include hrec hB hI

theorem callF_sound {f : FuncId} {args : List SV} {H H' : List (Nat × Blk)} {nx nx' : Nat} {sv : SV} (h : (callF rec P f args H nx).den = some (sv, H', nx')) {ρ : Rho} {vs : List Value} {w : World} (hv : VsRel ρ args vs) (hH : HRel B ρ H w) (hb : Below B w0 w)
    (hf : ∀ n, nx ≤ n → ρ n = none) (hnm : ∀ n b, find H n = some b → n < nx) : CallOK P f vs.toArray w fun v w' => ∃ ρ', Ext ρ ρ' ∧ VRel ρ' sv v ∧ HRel B ρ' H' w' ∧ Below B w0 w' ∧ (∀ n, nx' ≤ n → ρ' n = none) ∧ ∀ n b, find H' n = some b → n < nx' := by
  unfold callF at h
  split at h
  · simp [Tree.den] at h
  · rename_i fn hfn
    split at h
    · simp [Tree.den] at h
    · rename_i c hc
      split at h
      · simp [Tree.den] at h
      · rename_i hn
        obtain ⟨⟨x, s'⟩, h1, h2⟩ := den_bind_some h
        refine .inl ⟨by simp only [callFunc, Sem.run_bind, run_program, Result.andThen_ok, hfn, if_neg hn, hc, Option.isNone_some, Bool.false_eq_true, if_false, Sem.run_pure], ?_⟩
        refine calls_of_wp hfn hc ?_
        refine hrec c _ x s' h1 B w0 ρ _ w _ hB hI ⟨?_, hH, hb, hf, hnm, rfl⟩ ?_
        · have hl := hv.length
          simp only [Array.toList_append, Array.toList_replicate, List.size_toArray]
          rw [hl]
          exact hv.append (VsRel.undefs _)
        · intro ρ' a' w' hx hs
          have fin : ∀ xs, resS P s' fn.results.toList = some xs → (Tree.ret (resV xs, s'.H, s'.nx)).den = some (sv, H', nx') →
              a'.defers = [] ∧ ∃ v, (results fn a'.tmps).run P w' = .ok v w' ∧ ∃ v', Ending.returned v = .returned v' ∧ ∃ ρ', Ext ρ ρ' ∧ VRel ρ' sv v' ∧ HRel B ρ' H' w' ∧ Below B w0 w' ∧ (∀ n, nx' ≤ n → ρ' n = none) ∧ ∀ n b, find H' n = some b → n < nx' := by
            intro xs hxs hd
            simp [Tree.den] at hd
            obtain ⟨rfl, rfl, rfl⟩ := hd
            obtain ⟨v, hr, hk⟩ := run_resV (P := P) (fn := fn) hs.tmps hs.mem hxs
            exact ⟨hs.defers, v, hr, v, rfl, ρ', hx, hk, hs.mem, hs.below, hs.fresh, hs.names⟩
          cases x with
          | normal =>
            simp only at h2
            split at h2
            · rename_i xs hxs; exact fin xs hxs h2
            · simp [Tree.den] at h2
          | exit id => simp [Tree.den] at h2
          | ret =>
            simp only at h2
            split at h2
            · rename_i xs hxs; exact fin xs hxs h2
            · simp [Tree.den] at h2

variable {S : List Sum} (hS : ∀ c ∈ S, SumOK P I c)
include hS

theorem callS_sound {f : FuncId} {args : List SV} {s : St} {H' : List (Nat × Blk)} {nx' : Nat} {sv : SV} (h : (callS rec P S s f args).den = some (sv, H', nx')) {ρ : Rho} {vs : List Value} {w : World} (hv : VsRel ρ args vs) (hH : HRel B ρ s.H w) (hb : Below B w0 w)
    (hf : ∀ n, s.nx ≤ n → ρ n = none) (hnm : ∀ n b, find s.H n = some b → n < s.nx) : CallOK P f vs.toArray w fun v w' => ∃ ρ', Ext ρ ρ' ∧ VRel ρ' sv v ∧ HRel B ρ' H' w' ∧ Below B w0 w' ∧ (∀ n, nx' ≤ n → ρ' n = none) ∧ ∀ n b, find H' n = some b → n < nx' := by
  unfold callS at h
  split at h
  · rename_i c hc
    obtain ⟨hmem, rfl⟩ := findS_spec hc
    split at h
    · rename_i xs hxs
      simp [Tree.den] at h
      obtain ⟨rfl, rfl, rfl⟩ := h
      obtain ⟨e, hk⟩ := flatL_spec hxs hv
      rw [e]
      refine (hS c hmem (denL xs) hk w (hI w hb)).mono fun v w' ⟨hv', hk', hb'⟩ => ?_
      refine ⟨ρ, Ext.refl ρ, ?_, hH.below hb', hb.trans (hb'.mono (Nat.le_trans hB hb.size)), hf, hnm⟩
      rw [hv']
      exact mkR_rel rfl hk'
    · simp [Tree.den] at h
  · exact callF_sound hrec hB hI h hv hH hb hf hnm

omit hrec hB hI hS in
theorem CallOK.upon {f : FuncId} {args : Array Value} {w : World} {R : Value → World → Prop} {o : Oper} {a : Act} {K : Act → World → Prop} {Q : Exit → Act → World → Prop} (h : CallOK P f args w R)
    (hk : ∀ v w', R v w' → K (a.put o.dst v) w') : o.upon P a K Q ((callFunc f args).run P w) := by
  rcases h with ⟨h1, h2⟩ | ⟨v, h1, h2⟩
  · rw [h1]
    exact h2.mono fun e w' ⟨v, he, hr⟩ => by subst he; exact hk v w' hr
  · rw [h1]
    exact hk v w h2

/-- One operation. -/
theorem opS_sound {u : Bool} {o : Oper} {s s' : St} (h : (opS rec P S u o s).den = some s') {ρ : Rho} {a : Act} {w : World} (hs : StRel B w0 ρ s a w) {K : Act → World → Prop} {Q : Exit → Act → World → Prop}
    (hK : ∀ ρ' a' w', Ext ρ ρ' → StRel B w0 ρ' s' a' w' → K a' w') : o.wp P a w K Q := by
  have hg := lookT_rel hs.tmps
  unfold opS at h
  split at h
  · rename_i f args ats hop
    split at h
    · rename_i f' caps vs hf hvs
      obtain ⟨⟨sv, H', nx'⟩, h1, h2⟩ := den_bind_some h
      obtain ⟨v', h3, h4⟩ := den_bind_some h2
      simp [Tree.den] at h4
      subst h4
      obtain ⟨cs, hcaps, ef⟩ := hg _ _ hf
      have hvr := getSs_rel (ρ := ρ) (e := a.eval) hg _ _ hvs
      have hcr : VsRel ρ (capsS caps) cs := by
        clear h1 h hf ef
        induction caps generalizing cs with
        | nil => cases cs with
          | nil => trivial
          | cons c cs => exact hcaps.elim
        | cons c caps ih => cases cs with
          | nil => exact hcaps.elim
          | cons d cs => exact ⟨hcaps.1, ih cs hcaps.2⟩
      have hc := callS_sound hrec hB hI hS h1 (hvr.append hcr) hs.mem hs.below hs.fresh hs.names
      have hx : (execOp a.eval o).run P w = (callFunc f' ((args.toList.map a.eval) ++ cs).toArray).run P w := by
        have e : ((args.toList.map a.eval) ++ cs).toArray = args.map a.eval ++ cs.toArray := by apply Array.ext'; simp
        rw [e]
        simp [execOp, hop, resolve, ef, Deferred.ofValue, invoke]
      unfold Oper.wp
      rw [hx]
      refine hc.upon fun v w' ⟨ρ', hx', hv, hH', hb', hf', hn'⟩ => ?_
      exact hK ρ' _ w' hx' ⟨put_tmps (VsRel.mono hx' hs.tmps) (part_spec h3 hv) o.dst, hH', hb', hf', hn', put_defers _ _ hs.defers⟩
    · simp [Tree.den] at h
  · obtain ⟨r, h1, h2⟩ := den_bind_some h
    have he := pure_sound (P := P) (w := w) hg hs.mem h1
    have hBw : B ≤ w.heap.size := Nat.le_trans hB hs.below.size
    unfold Oper.wp
    cases r with
    | val v =>
      obtain ⟨x, hr, hv⟩ := he
      rw [hr]
      simp only [fin] at h2
      obtain ⟨v', h3, h4⟩ := den_bind_some h2
      simp [Tree.den] at h4
      subst h4
      exact hK ρ _ w (Ext.refl ρ) ⟨put_tmps hs.tmps (part_spec h3 hv) o.dst, hs.mem, hs.below, hs.fresh, hs.names, put_defers _ _ hs.defers⟩
    | blk cs t =>
      obtain ⟨vs, hr, hv⟩ := he
      rw [hr]
      simp [fin, Tree.den] at h2
      subst h2
      have hn := hs.fresh s.nx (Nat.le_refl _)
      have hx := newRho_ext (x := w.heap.size) hn
      refine hK _ _ _ hx ⟨put_tmps (sv := .p (.c (.p s.nx 0))) (VsRel.mono hx hs.tmps) ⟨w.heap.size, by simp [newRho], rfl⟩ o.dst, hs.mem.alloc hn hBw t hv, hs.below.alloc hBw _, fun n hn' => ?_, fun n b hf => ?_, put_defers _ _ hs.defers⟩
      · simp only [newRho]
        rw [if_neg (by simp at hn'; omega)]
        exact hs.fresh n (by simp at hn'; omega)
      · simp only [find] at hf
        split at hf
        · rename_i e; have := beq_len e; simp; omega
        · have := hs.names n b hf; simp; omega
    | sl cs t len =>
      obtain ⟨vs, hr, hv⟩ := he
      rw [hr]
      simp [fin, Tree.den] at h2
      subst h2
      have hn := hs.fresh s.nx (Nat.le_refl _)
      have hx := newRho_ext (x := w.heap.size) hn
      refine hK _ _ _ hx ⟨put_tmps (sv := .p (.c (.sl s.nx 0 len len))) (VsRel.mono hx hs.tmps) ⟨w.heap.size, by simp [newRho], rfl⟩ o.dst, hs.mem.alloc hn hBw t hv, hs.below.alloc hBw _, fun n hn' => ?_, fun n b hf => ?_, put_defers _ _ hs.defers⟩
      · simp only [newRho]
        rw [if_neg (by simp at hn'; omega)]
        exact hs.fresh n (by simp at hn'; omega)
      · simp only [find] at hf
        split at hf
        · rename_i e; have := beq_len e; simp; omega
        · have := hs.names n b hf; simp; omega
    | st n cs off new =>
      obtain ⟨w', hr, hH', hb', _⟩ := he
      rw [hr]
      simp [fin, Tree.den] at h2
      subst h2
      refine hK ρ _ w' (Ext.refl ρ) ⟨put_tmps hs.tmps undef_rel o.dst, hH', hs.below.trans hb', hs.fresh, fun m b hf => ?_, put_defers _ _ hs.defers⟩
      rcases find_upd s.H n m _ b hf with ⟨rfl, b0, h0, _⟩ | ⟨_, h0⟩
      · exact hs.names _ b0 h0
      · exact hs.names m b h0

theorem evOps_sound {ops : Array Oper} : ∀ (l : List Oper) (i : Nat) {s s' : St}, (evOps rec P S ops i l s).den = some s' → ∀ {ρ : Rho} {a : Act} {w : World}, StRel B w0 ρ s a w → ∀ {Q : Exit → Act → World → Prop},
    (∀ ρ' a' w', Ext ρ ρ' → StRel B w0 ρ' s' a' w' → Q .normal a' w') → wpList P ops Q l a w
  | [], i, s, s', h, ρ, a, w, hs, Q, hQ => by
    simp [evOps, Tree.den] at h
    subst h
    exact hQ ρ a w (Ext.refl ρ) hs
  | o :: l, i, s, s', h, ρ, a, w, hs, Q, hQ => by
    simp only [evOps] at h
    split at h
    · simp [Tree.den] at h
    · rename_i hw
      have hw := wantS_spec hs.tmps hw
      unfold wpList
      rw [hw]
      exact evOps_sound l (i + 1) h ⟨put_tmps hs.tmps undef_rel o.dst, hs.mem, hs.below, hs.fresh, hs.names, put_defers _ _ hs.defers⟩ hQ
    · rename_i hw
      have hw := wantS_spec hs.tmps hw
      obtain ⟨s1, h1, h2⟩ := den_bind_some h
      unfold wpList
      rw [hw]
      simp only [if_true]
      exact .inl (opS_sound hrec hB hI hS h1 hs fun ρ' a' w' hx hs' => evOps_sound l (i + 1) h2 hs' fun ρ2 a2 w2 hx2 hs2 => hQ ρ2 a2 w2 (hx.trans hx2) hs2)
end
end Go.Proofs.YtiooegkbkahppaaDoor
