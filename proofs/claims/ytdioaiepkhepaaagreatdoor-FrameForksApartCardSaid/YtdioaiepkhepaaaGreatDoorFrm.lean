/- Words for stacks of groups, told by their elements. No condition. -/
import Derived.Test.YtdioaiepkhepaaaGreatDoorLst
namespace Go.Proofs.YtdioaiepkhepaaaGreatDoor
open Go.RowKit
abbrev LV : List SK := [.i .i64, .i .i64, .i .i64, .i .i64, .i .i64, .i .i64, .i .i64, .i .u16, .i .i64, .i .i64, .b, .b, .i .u16, .i .u16, .i .u16, .i .u16, .i .u16, .i .u16, .i .u16, .i .u16, .i .u16, .i .u16, .i .u16]
def lenOK (l : Value) : Bool := decide (1 ≤ LN l) && decide (LN l ≤ 1000)
theorem lenOK.b {l : Value} (h : lenOK l = true) : 1 ≤ LN l ∧ LN l ≤ 1000 := by simpa [lenOK] using h
theorem lenOK.of {l : Value} (h1 : 1 ≤ LN l) (h2 : LN l ≤ 1000) : lenOK l = true := by simp [lenOK, h1, h2]
theorem lenOK.sub {l : Value} (h : lenOK l = true) : IntKind.i64.wrap (LN l - 1) = LN l - 1 := by
 have := lenOK.b h
 exact i64_in (by omega) (by omega)
theorem lenOK.last {l : Value} (h : lenOK l = true) : INB l (IntKind.i64.wrap (LN l - 1)) = true := by
 have := lenOK.b h
 rw [lenOK.sub h]
 exact INB_of (by omega) (by omega)
theorem LN_ST (off : Nat) (l : Value) (i : Int) (cs : List Value) : LN (ST off l i cs) = LN l := by simp [LN, ST, els_toArray]
theorem LN_LSV (k n : Nat) (vs : List Value) : LN (LSV k n vs) = n := by simp [LSV, LN_agg, chunkV_length]
theorem lenOK.lit (k : Nat) (vs : List Value) : lenOK (LSV k 1 vs) = true := lenOK.of (by rw [LN_LSV]; decide) (by rw [LN_LSV]; decide)
theorem lenOK.push {l : Value} (h : lenOK l = true) (k : Nat) (vs : List Value) : RO 112 (CT l (LSV k 1 vs)) = true := by
 have := lenOK.b h
 exact RO_of (n := 1001) (by rw [LN_CT, LN_LSV]; omega) (by decide) (by decide)
theorem bifP {α : Type} {c : Bool} {a b : α} {p : α → Prop} (h1 : c = true → p a) (h2 : c = false → p b) : p (bif c then a else b) := by
 cases c with
 | true => exact h1 rfl
 | false => exact h2 rfl
theorem bool_no {c : Bool} {q : Prop} (h1 : c = true) (h2 : c = false) : q := by rw [h1] at h2; cases h2
theorem IX_ST_same {off : Nat} {l : Value} {i : Int} {cs : List Value} (h0 : 0 ≤ i) (h1 : i < LN l) : IX (ST off l i cs) i = .agg (putV (els (IX l i)) off cs).toArray := by
 have : i.toNat < (els l).length := by simp only [LN] at h1; omega
 simp only [IX, ST, els_toArray, List.getD]
 rw [List.getElem?_set_self this]
 rfl
theorem LSV1 {k : Nat} {cs : List Value} (h : cs.length = k) : LSV k 1 cs = .agg #[.agg cs.toArray] := by
 simp only [LSV, chunkV, ← h, List.take_length]
theorem CT_LSV1 {k : Nat} {l : Value} {cs : List Value} (h : cs.length = k) : CT l (LSV k 1 cs) = SN l cs := by
 rw [LSV1 h]
 rfl
theorem lenOK.first {l : Value} (h : lenOK l = true) : INB l 0 = true := by
 have := lenOK.b h
 exact INB_of (by omega) (by omega)
theorem LN_clone (l : Value) : LN (CT NILV l) = LN l := by rw [LN_CT, LN_nil, Int.zero_add]
theorem lenOK.cl {l : Value} (h : lenOK l = true) : lenOK (CT NILV l) = true := by
 have := lenOK.b h
 exact lenOK.of (by rw [LN_clone]; omega) (by rw [LN_clone]; omega)
theorem lenOK.clone {l : Value} (h : lenOK l = true) : RO 112 (CT NILV l) = true := by
 have := lenOK.b h
 exact RO_of (n := 1001) (by rw [LN_clone]; omega) (by decide) (by decide)
theorem lenOK.snoc {l : Value} (h : lenOK l = true) (cs : List Value) : RO 112 (SN (CT NILV l) cs) = true := by
 have := lenOK.b h
 exact RO_of (n := 1001) (by rw [LN_SN, LN_clone]; omega) (by decide) (by decide)
theorem lenOK.tkb {l : Value} (h : lenOK l = true) : TKB l (IntKind.i64.wrap (LN l - 1)) = true := by
 have := lenOK.b h
 rw [lenOK.sub h]
 exact TKB_of (by omega) (by omega)
theorem lenOK.tk {l : Value} (h : lenOK l = true) (h0 : (IntKind.i64.wrap (LN l - 1) == 0) = false) : lenOK (TK l (IntKind.i64.wrap (LN l - 1))) = true := by
 have := lenOK.b h
 rw [lenOK.sub h] at h0 ⊢
 have h0 := beq_eq_false_iff_ne.1 h0
 exact lenOK.of (by rw [LN_TK (by omega) (by omega)]; omega) (by rw [LN_TK (by omega) (by omega)]; omega)
end Go.Proofs.YtdioaiepkhepaaaGreatDoor
