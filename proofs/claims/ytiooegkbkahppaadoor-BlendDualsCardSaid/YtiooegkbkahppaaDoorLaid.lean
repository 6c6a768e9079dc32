/- From the rows' condition to what the contracts ask of the world. -/
import Derived.Test.YtiooegkbkahppaaDoorRows
import Derived.Test.YtiooegkbkahppaaDoorNames
import Derived.Test.YtiooegkbkahppaaDoorPlain
import Derived.MakeChecks
import Derived.Lay
namespace Go.Proofs.YtiooegkbkahppaaDoor
open Go.RowKit

def laidHere : List (String × DataW Unit) := [("compositor/blend.names", Rows.laid_compositor_blend_names)]
theorem txt_of {P : Program} {w : World} {fuel e : Nat} {s : ByteArray} {bs : List UInt8} {q : List MemPlace} {sp : Nat → Bool} (he : P.underlying e = some .string) (h : DataW.trod (fun _ => ()) P w 0 sp false fuel e [.string s] = some (.lit (.string bs), q)) : Value.string s = txt bs := by
  obtain ⟨s', hs, hx, -⟩ := DataW.trod_string he h
  cases hs
  simp only [Prod.mk.injEq, DataW.lit.injEq, Lit.string.injEq] at hx
  obtain ⟨rfl, -⟩ := hx
  cases s
  simp [txt]
theorem names13 {cs : List Value} (h : KindsL (List.replicate 13 SK.s) cs) : ∃ l : List ByteArray, l.length = 13 ∧ cs = l.map Value.string := by
  generalize 13 = n at *
  induction n generalizing cs with
  | zero => exact ⟨[], rfl, h⟩
  | succ n ih =>
    obtain ⟨_, us, rfl, ⟨s, rfl⟩, h2⟩ := h
    obtain ⟨l, hl, rfl⟩ := ih h2
    exact ⟨s :: l, by simp [hl], rfl⟩
theorem invN_of {w : World} (h : laidMet Tryd.prog laidHere w) : InvN w := by
  obtain ⟨g, t, cs, fuel, p, hg, ht, hv, htr⟩ := Lib.laidMet.reads h (.head _)
  obtain rfl := Option.some.inj (ht.symm.trans (by
    obtain rfl := Option.some.inj (hg.symm.trans gnames)
    exact (show (Tryd.prog.globals[0]?).map (·.type) = some 67 by kernel_rfl)))
  have hk := plain_ok (enc := fun _ => ()) (P := Tryd.prog) 3 67 (List.replicate 13 SK.s) (by kernel_rfl) fuel cs.toList _ htr
  obtain ⟨l, hl, e⟩ := names13 hk
  have he : Tryd.prog.cellsOf 9 = 1 := by kernel_rfl
  have hcs : cs.toList = modeNames.map txt := by
    rw [e]
    apply List.ext_getElem?
    intro i
    rcases Nat.lt_or_ge i 13 with hi | hi
    · obtain ⟨f', d, q, hd, htd⟩ := Lib.array_elem Tryd.underlying67 htr i hi
      rw [he, e, Nat.mul_one] at htd
      have h1 : i < l.length := by omega
      have h2 : i < modeNames.length := hi
      have e3 : ((l.map Value.string).drop i).take 1 = [.string l[i]] := by
        rw [List.drop_eq_getElem_cons (by simpa using h1)]
        simp
      rw [e3] at htd
      have h4 : d = .lit (.string modeNames[i]) := by
        have h5 : (modeNames.map fun b => (DataW.lit (.string b) : DataW Unit))[i]? = some d := hd
        rw [List.getElem?_map, List.getElem?_eq_getElem h2] at h5
        exact (Option.some.inj h5).symm
      rw [h4] at htd
      rw [List.getElem?_map, List.getElem?_map, List.getElem?_eq_getElem h1, List.getElem?_eq_getElem h2]
      simp only [Option.map_some]
      rw [txt_of Tryd.underlying9 htd]
    · rw [List.getElem?_eq_none (by simp; omega), List.getElem?_eq_none (by simp [modeNames]; omega)]
  have : cs = modeCells := by
    cases cs
    simp only [modeCells]
    exact congrArg Array.mk hcs
  subst this
  exact hv
end Go.Proofs.YtiooegkbkahppaaDoor
