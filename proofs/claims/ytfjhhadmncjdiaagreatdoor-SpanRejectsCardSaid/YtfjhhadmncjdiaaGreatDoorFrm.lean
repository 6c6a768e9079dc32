/- Words for stacks of groups, told by their elements. No condition. -/
import Derived.Test.YtfjhhadmncjdiaaGreatDoorLst
namespace Go.Proofs.YtfjhhadmncjdiaaGreatDoor
open Go.RowKit

def lenOK (l : Value) : Bool := decide (1 ≤ LN l) && decide (LN l ≤ 1000)
theorem lenOK.b {l : Value} (h : lenOK l = true) : 1 ≤ LN l ∧ LN l ≤ 1000 := by simpa [lenOK] using h
theorem lenOK.of {l : Value} (h1 : 1 ≤ LN l) (h2 : LN l ≤ 1000) : lenOK l = true := by simp [lenOK, h1, h2]
theorem lenOK.sub {l : Value} (h : lenOK l = true) : IntKind.i64.wrap (LN l - 1) = LN l - 1 := by
  have := lenOK.b h
  exact i64_in (by omega) (by omega)
theorem lenOK.last {l : Value} (h : lenOK l = true) : INB l (IntKind.i64.wrap (LN l - 1)) = true := by
  have := lenOK.b h
  rw [lenOK.sub h]
  exact INB_of (by omega) (by omega)
theorem LN_ST (off : Nat) (l : Value) (i : Int) (cs : List Value) : LN (ST off l i cs) = LN l := by simp [LN, ST, els_toArray]
theorem LN_LSV (k n : Nat) (vs : List Value) : LN (LSV k n vs) = n := by simp [LSV, LN_agg, chunkV_length]
theorem lenOK.lit (k : Nat) (vs : List Value) : lenOK (LSV k 1 vs) = true := lenOK.of (by rw [LN_LSV]; decide) (by rw [LN_LSV]; decide)
theorem lenOK.push {l : Value} (h : lenOK l = true) (k : Nat) (vs : List Value) : RO 112 (CT l (LSV k 1 vs)) = true := by
  have := lenOK.b h
  exact RO_of (n := 1001) (by rw [LN_CT, LN_LSV]; omega) (by decide) (by decide)
theorem bifP {α : Type} {c : Bool} {a b : α} {p : α → Prop} (h1 : c = true → p a) (h2 : c = false → p b) : p (bif c then a else b) := by
  cases c with
  | true => exact h1 rfl
  | false => exact h2 rfl
theorem bool_no {c : Bool} {q : Prop} (h1 : c = true) (h2 : c = false) : q := by rw [h1] at h2; cases h2
theorem IX_ST_same {off : Nat} {l : Value} {i : Int} {cs : List Value} (h0 : 0 ≤ i) (h1 : i < LN l) : IX (ST off l i cs) i = .agg (putV (els (IX l i)) off cs).toArray := by
  have : i.toNat < (els l).length := by simp only [LN] at h1; omega
  simp only [IX, ST, els_toArray, List.getD]
  rw [List.getElem?_set_self this]
  rfl
theorem IX_ST_ne {off : Nat} {l : Value} {i j : Int} {cs : List Value} (h0 : 0 ≤ i) (hj : 0 ≤ j) (h : j ≠ i) : IX (ST off l i cs) j = IX l j := by
  have : i.toNat ≠ j.toNat := by omega
  simp only [IX, ST, els_toArray, List.getD]
  rw [List.getElem?_set_ne this]
theorem kind_ST {κs : List SK} {l : Value} (h : inKind (.l κs) l) {i : Int} (h0 : 0 ≤ i) (h1 : i < LN l) {off : Nat} {cs : List Value} (hc : KindsL ((κs.drop off).take cs.length) cs) (hle : off + cs.length ≤ κs.length) : inKind (.l κs) (ST off l i cs) := by
  obtain ⟨cs0, e0, k0⟩ := elem_kinds h h0 h1
  obtain ⟨es, rfl, e1, e2, e3⟩ := list_eq h
  simp only [inKind]
  refine ⟨_, rfl, by simp only [List.length_set, e1]; exact e2, fun e he => ?_⟩
  rw [e1] at he
  rcases List.mem_or_eq_of_mem_set he with he | rfl
  · exact e3 e he
  · refine ⟨_, rfl, ?_⟩
    have : (es.getD i.toNat undef) = .agg cs0.toArray := by rw [← e0]; simp only [IX, e1]
    rw [this, els_toArray]
    exact k0.put hc hle
theorem kind_CT {κs : List SK} {a b : Value} (ha : inKind (.l κs) a) (hb : inKind (.l κs) b) (hl : LN a + LN b ≤ 9223372036854775807) : inKind (.l κs) (CT a b) := by
  obtain ⟨es, rfl, e1, e2, e3⟩ := list_eq ha
  obtain ⟨fs, rfl, f1, f2, f3⟩ := list_eq hb
  simp only [inKind, CT, e1, f1]
  simp only [LN, e1, f1] at hl
  refine ⟨_, rfl, by simp only [List.length_append]; omega, fun e he => ?_⟩
  rcases List.mem_append.1 he with he | he
  · exact e3 e he
  · exact f3 e he
theorem kind_LSV1 {κs : List SK} {cs : List Value} (h : KindsL κs cs) : inKind (.l κs) (LSV κs.length 1 cs) := by
  have hl := h.len
  simp only [inKind, LSV, chunkV]
  refine ⟨_, rfl, by simp, fun e he => ⟨cs, ?_, h⟩⟩
  rw [List.mem_singleton] at he
  rw [he, ← hl, List.take_length]
theorem LSV1 {k : Nat} {cs : List Value} (h : cs.length = k) : LSV k 1 cs = .agg #[.agg cs.toArray] := by
  simp only [LSV, chunkV, ← h, List.take_length]
theorem CT_LSV1 {k : Nat} {l : Value} {cs : List Value} (h : cs.length = k) : CT l (LSV k 1 cs) = SN l cs := by
  rw [LSV1 h]
  rfl
end Go.Proofs.YtfjhhadmncjdiaaGreatDoor
