/- The variables that are laid, and the functions that read them. -/
import Derived.Test.YtdioaiepkhepaaaGreatDoorSm06
import Derived.Lib.LaidU8
import Derived.Lib.SmallJoins
import Derived.RowKit
namespace Go.Proofs.YtdioaiepkhepaaaGreatDoor
set_option maxRecDepth 100000
open Go.RowKit
def txt (l : List UInt8) : Value := .string ⟨l.toArray⟩
def InvA (_ : World) : Prop := True
theorem invA_stays : Stays InvA := fun _ _ _ _ => trivial
def rulesL : List (List UInt8 × Int × Int × Int) := [([], 0, 0, 0), ([99, 108, 101, 97, 114], 0, 0, 0), ([115, 114, 99], 1, 0, 1), ([100, 115, 116], 0, 1, 2), ([115, 114, 99, 45, 111, 118, 101, 114], 1, 3, 3), ([100, 115, 116, 45, 111, 118, 101, 114], 3, 1, 3), ([115, 114, 99, 45, 105, 110], 2, 0, 4), ([100, 115, 116, 45, 105, 110], 0, 2, 4), ([115, 114, 99, 45, 111, 117, 116], 3, 0, 1), ([100, 115, 116, 45, 111, 117, 116], 0, 3, 2), ([115, 114, 99, 45, 97, 116, 111, 112], 2, 3, 2), ([100, 115, 116, 45, 97, 116, 111, 112], 3, 2, 1), ([120, 111, 114], 3, 3, 3)]
def ruleV (r : List UInt8 × Int × Int × Int) : List Value := [txt r.1, .int .i64 r.2.1, .int .i64 r.2.2.1, .int .i64 r.2.2.2]
def ruleCells : Array Value := (rulesL.flatMap ruleV).toArray
def InvB (w : World) : Prop := w.var? Tryz.prog "compositor/operator.rules" = some ruleCells
theorem grules : Tryz.prog.globalNamed "compositor/operator.rules" = some 0 := by kernel_rfl
theorem invB_stays : Stays InvB := fun _ _ h hb => Joins.var_stays grules h hb (Nat.le_refl _)
def InvN (w : World) : Prop := InvA w ∧ InvB w
theorem invN_stays : Stays InvN := fun _ _ h hb => ⟨invA_stays _ _ h.1 hb, invB_stays _ _ h.2 hb⟩
theorem SumOK.any {P : Program} {I : World → Prop} {s : Sum} (h : SumOK P Inv s) : SumOK P I s := fun ds vs w _ hr => h ds vs w trivial hr
theorem InvN.rule {w : World} (h : InvN w) (i : Nat) : w.cell? ⟨0, i, none⟩ = ruleCells[i]? := World.var?_cell grules h.2 i
end Go.Proofs.YtdioaiepkhepaaaGreatDoor
