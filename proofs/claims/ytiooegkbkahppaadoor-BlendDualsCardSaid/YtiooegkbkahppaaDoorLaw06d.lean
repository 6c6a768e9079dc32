/- BlendNames, as a plain law. -/
import Derived.Test.YtiooegkbkahppaaDoorLaw06c
namespace Go.Proofs.YtiooegkbkahppaaDoor
open Go.RowKit
theorem eqStr_dec (a b : ByteArray) : eqStr a b = decide (a = b) := by
  rw [eqStr_eq, ByteArray.toList_eq, ByteArray.toList_eq]
  by_cases h : a = b
  · subst h; simp
  · have : (a.data.toList == b.data.toList) = false := by rw [beq_eq_false_iff_ne]; exact fun k => h (WideShapes.bytes_inj k)
    rw [this, decide_eq_false h]
theorem nameIs (n : Int) : F_ref06_ModeName n = modeName n := by
  unfold modeName
  by_cases h : 1 ≤ n ∧ n ≤ 12
  · rw [if_pos h]
    rcases modes h.1 h.2 with rfl | rfl | rfl | rfl | rfl | rfl | rfl | rfl | rfl | rfl | rfl | rfl <;> rw [F_ref06_ModeName_eq] <;> rfl
  · rw [if_neg h, F_ref06_ModeName_eq]
    by_cases h1 : n < 1
    · simp [h1]
    · have h2 : n ≥ 13 := by omega
      simp [h1, h2]
theorem parseIs (s : ByteArray) : F_blend_Parse s = F_ref06_ParseMode s := by
  rw [F_ref06_ParseMode_eq]
  simp only [nameIs, eqStr_dec, bif_ite]
  simp [F_blend_Parse, parseFrom, modeNames, modeName]
theorem blendNames (p0 : Int) (p1 : ByteArray) : F_law06_BlendNames p0 p1 = true := by
  rw [F_law06_BlendNames_eq]
  simp only [awake06, parseIs, nameIs, F_blend_Name, eqStr_dec, beq_self_eq_true, cond_true, decide_true]
end Go.Proofs.YtiooegkbkahppaaDoor
