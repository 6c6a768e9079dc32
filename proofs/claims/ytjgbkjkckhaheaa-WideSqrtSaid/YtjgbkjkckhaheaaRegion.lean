/- A region that draws its order, walked operation by operation: for regions in which a guard is false (an operation that does not run is passed over). -/
import Derived.Test.YtjgbkjkckhaheaaBase
namespace Go.Proofs.Ytjgbkjkckhaheaa
open Go.RowKit
section
variable {P : Program} {ops : Array Oper} {Q : Exit → Act → World → Prop} {md : Region.Mode} {S : World → Prop}

/-- Operation i writes temporary d, may come first, and is wanted (or not). -/
def stepOk (md : Region.Mode) (ops : Array Oper) (listed : Array Bool) (a : Act) (i d : Nat) (wanted : Bool) : Bool :=
  match ops[i]? with
  | some o => decide (o.dst = some d) && Region.free md ops listed i && (Region.ready md ops listed).contains i && (Region.wanted o (yielded ops a.tmps) == wanted)
  | none => false

theorem wpAnyH_skip (i d : Nat) {fuel : Nat} {listed : Array Bool} {a : Act} {w : World} (hs : Region.noSelect ops = true) (hok : stepOk md ops listed a i d false = true)
    (hu : a.tmps.setIfInBounds d undef = a.tmps) (hQ : ∀ c (a : Act) (x : Nat) (v : Value) w, Q (.panic c) ⟨a.tmps.setIfInBounds x v, a.defers⟩ w → Q (.panic c) a w) (hS : S w)
    (h : wpAnyH P md ops Q S fuel (listed.setIfInBounds i true) a w) : wpAnyH P md ops Q S (fuel + 1) listed a w := by
  unfold stepOk at hok
  cases ho : ops[i]? with
  | none => rw [ho] at hok; cases hok
  | some o =>
    rw [ho] at hok
    simp only [Bool.and_eq_true, decide_eq_true_eq, beq_iff_eq] at hok
    obtain ⟨⟨⟨h1, h2⟩, h3⟩, h4⟩ := hok
    refine wpAnyH_take ho hs h2 h3 (fun c a w hq => hQ c a d _ w (by rw [h1] at hq; exact hq)) (Or.inr ⟨h4, rfl⟩) hS ?_
    have e : a.put o.dst undef = a := by rw [h1]; simp only [Act.put, hu]
    rw [e]
    exact h

theorem wpAnyH_quiet (i d : Nat) (v : Value) {fuel : Nat} {listed : Array Bool} {a : Act} {w : World} (hs : Region.noSelect ops = true) (hok : stepOk md ops listed a i d true = true)
    (hQ : ∀ c (a : Act) (x : Nat) (v : Value) w, Q (.panic c) ⟨a.tmps.setIfInBounds x v, a.defers⟩ w → Q (.panic c) a w) (hS : S w)
    (hy : ∀ w, S w → (match ops[i]? with | some o => (execOp a.eval o).run P w | none => .ok .skip w) = .ok (.value v) w)
    (h : wpAnyH P md ops Q S fuel (listed.setIfInBounds i true) ⟨a.tmps.setIfInBounds d v, a.defers⟩ w) : wpAnyH P md ops Q S (fuel + 1) listed a w := by
  unfold stepOk at hok
  cases ho : ops[i]? with
  | none => rw [ho] at hok; cases hok
  | some o =>
    rw [ho] at hok
    simp only [Bool.and_eq_true, decide_eq_true_eq, beq_iff_eq] at hok
    obtain ⟨⟨⟨h1, h2⟩, h3⟩, h4⟩ := hok
    rw [ho] at hy
    refine wpAnyH_take (v := v) ho hs h2 h3 (fun c a w hq => hQ c a d _ w (by rw [h1] at hq; exact hq)) (Or.inl ⟨h4, hy⟩) hS ?_
    have e : a.put o.dst v = ⟨a.tmps.setIfInBounds d v, a.defers⟩ := by rw [h1]; simp only [Act.put]
    rw [e]
    exact h
end
end Go.Proofs.Ytjgbkjkckhaheaa
