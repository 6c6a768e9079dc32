/- From the rows' condition to what the contracts ask of the world. -/
import Derived.Test.YtdioaiepkhepaaaGreatDoorRows
import Derived.Test.YtdioaiepkhepaaaGreatDoorNames
import Derived.Test.YtdioaiepkhepaaaGreatDoorPlain
import Derived.MakeChecks
import Derived.Lay
namespace Go.Proofs.YtdioaiepkhepaaaGreatDoor
open Go.RowKit
def laidA : List (String × DataW Unit) := []
def laidB : List (String × DataW Unit) := [("compositor/operator.rules", Rows.laid_compositor_operator_rules)]
def laidHere : List (String × DataW Unit) := laidB ++ laidA
mutual
def flatD {H : Type} : DataW H → List Value
 | .lit (.bool b) => [.bool b]
 | .lit (.int k n) => [.int k n]
 | .lit (.string l) => [txt l]
 | .agg ds => flatDs ds
 | _ => []
def flatDs {H : Type} : List (DataW H) → List Value
 | [] => []
 | d :: ds => flatD d ++ flatDs ds
end
theorem flatFs {H α : Type} {P : Program} {r : TypeId → Option (List SK)} {rd : TypeId → List Value → Option (DataW H × List MemPlace)} {o : α → Nat} {ty : α → TypeId} (ih : ∀ t κs cs y, r t = some κs → rd t cs = some y → cs = flatD y.1) {cs : List Value} :
 ∀ {l : List α} {off : Nat} {κs : List SK} {ys : List (DataW H × List MemPlace)}, plainFs P r off (l.map fun a => (o a, ty a)) = some κs → (l.mapM fun a => rd (ty a) ((cs.drop (o a)).take (P.cellsOf (ty a)))) = some ys → (cs.drop off).length = κs.length → cs.drop off = flatDs (ys.map (·.1))
 | [], off, κs, ys, h, hm, hl => by
  simp [plainFs] at h
  subst h
  simp at hm
  subst hm
  exact List.eq_nil_of_length_eq_zero hl
 | a :: l, off, κs, ys, h, hm, hl => by
  simp only [List.map_cons, plainFs] at h
  rw [List.mapM_cons] at hm
  simp only [bind, Option.bind_eq_some_iff] at hm
  obtain ⟨y, hy, zs, hz, he⟩ := hm
  obtain rfl : y :: zs = ys := Option.some.inj he
  split at h
  ·rename_i κ0 h0
   split at h
   ·rename_i hc
    simp only [Option.map_eq_some_iff] at h
    obtain ⟨κ1, h1, rfl⟩ := h
    have k0 := ih _ _ _ _ h0 hy
    rw [hc.1, ← hc.2] at k0
    have hl1 : (cs.drop (off + κ0.length)).length = κ1.length := by
     simp only [List.length_drop, List.length_append] at hl ⊢
     omega
    have k1 := flatFs ih h1 hz hl1
    have e : cs.drop off = (cs.drop off).take κ0.length ++ cs.drop (off + κ0.length) := by
     rw [← List.drop_drop]
     exact (List.take_append_drop _ _).symm
    rw [e, k0, k1]
    rfl
   ·cases h
  ·cases h
theorem flat_ok {H : Type} {enc : TypeId × Value → H} {P : Program} {w : World} {base : Nat} {spare : Nat → Bool} {held : Bool} : ∀ (n : Nat) (t : TypeId) (κs : List SK), plainT P n t = some κs → ∀ (m : Nat) (cs : List Value) (x : DataW H × List MemPlace), DataW.trod enc P w base spare held m t cs = some x → cs = flatD x.1
 | 0, _, _, h, _, _, _, _ => by cases h
 | n + 1, t, κs, h, 0, cs, x, hx => by cases hx
 | n + 1, t, κs, h, m + 1, cs, x, hx => by
  rw [DataW.trod_step] at hx
  unfold DataW.trodStep at hx
  simp only [plainT] at h
  have ih := fun t κs cs (y : DataW H × List MemPlace) (a : plainT P n t = some κs) (b : DataW.trod enc P w base spare held m t cs = some y) => flat_ok n t κs a m cs y b
  split at h
  ·rename_i hu
   simp only [hu] at hx
   split at hx <;> simp_all
   subst hx
   rfl
  ·rename_i k hu
   simp only [hu] at hx
   split at hx <;> simp_all
   obtain ⟨⟨rfl, -⟩, rfl⟩ := hx
   rfl
  ·rename_i hu
   simp only [hu] at hx
   split at hx <;> simp_all
   obtain ⟨-, rfl⟩ := hx
   simp [flatD, txt]
  ·rename_i fs hu
   simp only [hu] at hx
   split at h
   ·rename_i κ0 h0
    split at h
    ·rename_i hl
     split at hx
     ·rename_i hlen
      simp only [Option.map_eq_some_iff] at hx
      obtain ⟨ys, hy, rfl⟩ := hx
      have := flatFs (cs := cs) ih h0 hy (by rw [List.drop_zero, hlen, hl])
      simpa [flatD] using this
     ·cases hx
    ·cases h
   ·cases h
  ·rename_i k e hu
   simp only [hu] at hx
   split at h
   ·rename_i κ0 h0
    split at h
    ·rename_i hl
     split at hx
     ·rename_i hlen
      simp only [Option.map_eq_some_iff] at hx
      obtain ⟨ys, hy, rfl⟩ := hx
      have := flatFs (cs := cs) ih h0 hy (by rw [List.drop_zero, hlen, hl])
      simpa [flatD] using this
     ·cases hx
    ·cases h
   ·cases h
  ·cases h
theorem invA_of {w : World} (_ : laidMet Tryz.prog laidHere w) : InvA w := trivial
theorem invB_of {w : World} (h : laidMet Tryz.prog laidHere w) : InvB w := by
 obtain ⟨g, t, cs, fuel, p, hg, ht, hv, htr⟩ := Lib.laidMet.reads h (List.mem_append_left laidA (.head _))
 obtain rfl := Option.some.inj (ht.symm.trans (by
  obtain rfl := Option.some.inj (hg.symm.trans grules)
  exact (show (Tryz.prog.globals[0]?).map (·.type) = some 134 by kernel_rfl)))
 have hf := flat_ok (enc := fun _ => ()) (P := Tryz.prog) 4 134 ((List.replicate 13 [SK.s, .i .i64, .i .i64, .i .i64]).flatten) (by kernel_rfl) fuel cs.toList _ htr
 have : cs = ruleCells := by
  cases cs
  exact congrArg Array.mk hf
 subst this
 exact hv
theorem invN_of {w : World} (h : laidMet Tryz.prog laidHere w) : InvN w := ⟨invA_of h, invB_of h⟩
end Go.Proofs.YtdioaiepkhepaaaGreatDoor
