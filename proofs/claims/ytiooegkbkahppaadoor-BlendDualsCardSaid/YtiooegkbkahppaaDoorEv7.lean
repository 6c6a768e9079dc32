/- The symbolic evaluator: a region that draws its order. Whatever order is drawn, the operations do what they do in the order of the text. No condition. -/
import Derived.Test.YtiooegkbkahppaaDoorEv6
namespace Go.Proofs.YtiooegkbkahppaaDoor
open Go.RowKit

/-! An operation looks at its operands alone. -/
section
variable {g g' : Get}
theorem getE_congr {x : Operand} (h : g x = g' x) : getE g x = getE g' x := by unfold getE; rw [h]
theorem getP_congr {x : Operand} (h : g x = g' x) : getP g x = getP g' x := by unfold getP; rw [h]
theorem getA_congr {x : Operand} (h : g x = g' x) : getA g x = getA g' x := by unfold getA; rw [h]
theorem getSl_congr {x : Operand} (h : g x = g' x) : getSl g x = getSl g' x := by unfold getSl; rw [h]
theorem getPs_congr : ∀ (l : List (Nat × Operand)), (∀ x ∈ l.map (·.2), g x = g' x) → getPs g l = getPs g' l
  | [], _ => rfl
  | (i, x) :: l, h => by
    simp only [getPs]
    rw [getP_congr (h x (by simp)), getPs_congr l fun y hy => h y (by simp at hy ⊢; exact .inr hy)]
theorem getAs_congr : ∀ (l : List Operand), (∀ x ∈ l, g x = g' x) → getAs g l = getAs g' l
  | [], _ => rfl
  | x :: l, h => by
    simp only [getAs]
    rw [getA_congr (h x (by simp)), getAs_congr l fun y hy => h y (by simp [hy])]
theorem getSs_congr : ∀ (l : List Operand), (∀ x ∈ l, g x = g' x) → getSs g l = getSs g' l
  | [], _ => rfl
  | x :: l, h => by
    simp only [getSs]
    rw [h x (by simp), getSs_congr l fun y hy => h y (by simp [hy])]
theorem foldE_congr (F : SE → SE → SE) (k : IntKind) : ∀ (l : List Operand) (acc : SE), (∀ x ∈ l, g x = g' x) → foldE F k g acc l = foldE F k g' acc l
  | [], _, _ => rfl
  | x :: l, acc, h => by
    simp only [foldE]
    rw [getE_congr (h x (by simp))]
    split
    · split
      · split
        · exact foldE_congr F k l _ fun y hy => h y (by simp [hy])
        · rfl
      · rfl
    · rfl
theorem minmax_congr (mk : IntKind → SE → SE → SE) (l : List Operand) (h : ∀ x ∈ l, g x = g' x) : minmax mk g l = minmax mk g' l := by
  cases l with
  | nil => rfl
  | cons x l =>
    simp only [minmax]
    rw [getE_congr (h x (by simp))]
    split
    · split
      · rw [foldE_congr _ _ l _ fun y hy => h y (by simp [hy])]
      · rfl
    · rfl
theorem pure_congr {P : Program} {H : List (Nat × Blk)} {op : Op} (h : ∀ x ∈ op.operands, g x = g' x) : pureStep P H g op = pureStep P H g' op := by
  cases op <;> simp only [Op.operands] at h <;> try (simp only [pureStep]; done)
  case move x => simp only [pureStep]; rw [h x (by simp)]
  case assign x => simp only [pureStep]; rw [h x (by simp)]
  case pick c a b => simp only [pureStep]; rw [getE_congr (h c (by simp)), h a (by simp), h b (by simp)]
  case box t x => simp only [pureStep]; rw [getP_congr (h x (by simp))]
  case build t ps => simp only [pureStep]; rw [getPs_congr ps.toList (by simpa using h)]
  case load t x => simp only [pureStep]; rw [getA_congr (h x (by simp))]
  case store t x y => simp only [pureStep]; rw [getA_congr (h x (by simp)), getP_congr (h y (by simp))]
  case nilCheck x => simp only [pureStep]; rw [h x (by simp)]
  case binOp op t x y yt => simp only [pureStep]; rw [getP_congr (h x (by simp)), getP_congr (h y (by simp))]
  case unOp op t x => cases op <;> simp only [pureStep] <;> rw [getE_congr (h x (by simp))]
  case convert s d x => simp only [pureStep]; rw [getE_congr (h x (by simp))]
  case fieldAddr s x f => simp only [pureStep]; rw [getA_congr (h x (by simp))]
  case field s x f => simp only [pureStep]; rw [getP_congr (h x (by simp))]
  case indexAddr s x f => simp only [pureStep]; rw [getA_congr (h x (by simp)), getE_congr (h f (by simp)), getSl_congr (h x (by simp))]
  case buildSlice t n ps => simp only [pureStep]; rw [getPs_congr ps.toList (by simpa using h)]
  case index s x f => simp only [pureStep]; rw [getP_congr (h x (by simp)), getE_congr (h f (by simp))]
  case extract x i => simp only [pureStep]; rw [h x (by simp)]
  case makeFunc f first caps => cases f <;> simp only [pureStep]; rw [getAs_congr caps.toList fun x hx => h x (by simp at hx ⊢; exact .inr hx)]
  case call c =>
    have ha : ∀ x ∈ c.args.toList, g x = g' x := fun x hx => h x (by simp [Call.operands] at hx ⊢; exact .inr hx)
    simp only [pureStep]
    rw [minmax_congr mkMn _ ha, minmax_congr mkMx _ ha]
    split
    · rfl
    · rfl
    · split
      · rename_i t x _ hx
        rw [getSl_congr (ha x (by rw [hx]; simp))]
      · rfl
    · rfl
theorem pure_heap {P : Program} {H H' : List (Nat × Blk)} {o : Oper} (hl : ∀ t x n, (o.op = .load t x ∨ ∃ y, o.op = .store t x y) → (getA g x).map (·.1) = some n → find H n = find H' n) :
    pureStep P H g o.op = pureStep P H' g o.op := by
  generalize o.op = op at hl
  cases op <;> try (simp only [pureStep]; done)
  case load t x =>
    simp only [pureStep]
    cases ha : getA g x with
    | none => rfl
    | some p =>
      obtain ⟨n, off⟩ := p
      have e := hl t x n (.inl rfl) (by rw [ha]; rfl)
      simp only [e]
  case store t x y =>
    simp only [pureStep]
    cases ha : getA g x with
    | none => rfl
    | some p =>
      obtain ⟨n, off⟩ := p
      have e := hl t x n (.inr ⟨y, rfl⟩) (by rw [ha]; rfl)
      cases getP g y with
      | none => rfl
      | some v => simp only [e]
  case unOp op t x => cases op <;> simp only [pureStep]
  case makeFunc f a b => cases f <;> simp only [pureStep]
end
end Go.Proofs.YtiooegkbkahppaaDoor
