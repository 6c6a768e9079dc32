/- The variables that are laid, and the functions that read them. -/
import Derived.Test.YtfjhhadmncjdiaaGreatDoorSm06
import Derived.Lib.LaidU8
import Derived.Lib.SmallJoins
import Derived.RowKit
namespace Go.Proofs.YtfjhhadmncjdiaaGreatDoor
set_option maxRecDepth 100000
open Go.RowKit

def txt (l : List UInt8) : Value := .string ⟨l.toArray⟩
def modeNames : List (List UInt8) := [[], [110, 111, 114, 109, 97, 108], [109, 117, 108, 116, 105, 112, 108, 121], [115, 99, 114, 101, 101, 110], [111, 118, 101, 114, 108, 97, 121], [100, 97, 114, 107, 101, 110], [108, 105, 103, 104, 116, 101, 110], [99, 111, 108, 111, 114, 45, 100, 111, 100, 103, 101], [99, 111, 108, 111, 114, 45, 98, 117, 114, 110], [104, 97, 114, 100, 45, 108, 105, 103, 104, 116], [115, 111, 102, 116, 45, 108, 105, 103, 104, 116], [100, 105, 102, 102, 101, 114, 101, 110, 99, 101], [101, 120, 99, 108, 117, 115, 105, 111, 110]]
def modeCells : Array Value := (modeNames.map txt).toArray
def InvA (w : World) : Prop := w.var? Tryz.prog "compositor/blend.names" = some modeCells
theorem gnames : Tryz.prog.globalNamed "compositor/blend.names" = some 0 := by kernel_rfl
theorem invA_stays : Stays InvA := fun _ _ h hb => Joins.var_stays gnames h hb (Nat.le_refl _)
def rulesL : List (List UInt8 × Int × Int × Int) := [([], 0, 0, 0), ([99, 108, 101, 97, 114], 0, 0, 0), ([115, 114, 99], 1, 0, 1), ([100, 115, 116], 0, 1, 2), ([115, 114, 99, 45, 111, 118, 101, 114], 1, 3, 3), ([100, 115, 116, 45, 111, 118, 101, 114], 3, 1, 3), ([115, 114, 99, 45, 105, 110], 2, 0, 4), ([100, 115, 116, 45, 105, 110], 0, 2, 4), ([115, 114, 99, 45, 111, 117, 116], 3, 0, 1), ([100, 115, 116, 45, 111, 117, 116], 0, 3, 2), ([115, 114, 99, 45, 97, 116, 111, 112], 2, 3, 2), ([100, 115, 116, 45, 97, 116, 111, 112], 3, 2, 1), ([120, 111, 114], 3, 3, 3)]
def ruleV (r : List UInt8 × Int × Int × Int) : List Value := [txt r.1, .int .i64 r.2.1, .int .i64 r.2.2.1, .int .i64 r.2.2.2]
def ruleCells : Array Value := (rulesL.flatMap ruleV).toArray
def InvB (w : World) : Prop := w.var? Tryz.prog "compositor/operator.rules" = some ruleCells
theorem grules : Tryz.prog.globalNamed "compositor/operator.rules" = some 1 := by kernel_rfl
theorem invB_stays : Stays InvB := fun _ _ h hb => Joins.var_stays grules h hb (Nat.le_refl _)
/-- The laid variables hold what the text gives them. -/
def InvN (w : World) : Prop := InvA w ∧ InvB w
theorem invN_stays : Stays InvN := fun _ _ h hb => ⟨invA_stays _ _ h.1 hb, invB_stays _ _ h.2 hb⟩
theorem SumOK.any {P : Program} {I : World → Prop} {s : Sum} (h : SumOK P Inv s) : SumOK P I s := fun ds vs w _ hr => h ds vs w trivial hr
theorem InvN.cell {w : World} (h : InvN w) (i : Nat) : w.cell? ⟨0, i, none⟩ = modeCells[i]? := World.var?_cell gnames h.1 i
theorem InvN.rule {w : World} (h : InvN w) (i : Nat) : w.cell? ⟨1, i, none⟩ = ruleCells[i]? := World.var?_cell grules h.2 i

def modeName (n : Int) : ByteArray := if 1 ≤ n ∧ n ≤ 12 then ⟨(modeNames.getD n.toNat []).toArray⟩ else ⟨#[]⟩
def F_blend_Name (n : Int) : ByteArray := modeName n
def A_blend_Name : List PS := [.c (.i .i64)]
def R_blend_Name : RS := .one (.c .s)
def L_blend_Name : List Value → List Value
  | [.int _ n] => [.string (F_blend_Name n)]
  | _ => []
def S_blend_Name : Sum := ⟨26, L_blend_Name, A_blend_Name, R_blend_Name⟩

theorem cValidM (n : Int) (h0 : IntKind.i64.min ≤ n) (h1 : n ≤ IntKind.i64.max) (w : World) :
    Calls Tryz.prog 49 #[.int .i64 n] w (RetV (.bool (decide (1 ≤ n ∧ n ≤ 12))) w) := by
  refine (sumCalls (F := L_blend_valid) (A := A_blend_valid) (R := R_blend_valid) ok_blend_valid (vs := [.int .i64 n]) Tryz.call49 rfl rfl (κs := [.i .i64]) ⟨_, _, rfl, ⟨_, rfl, h0, h1⟩, rfl⟩ (w := w) trivial).mono ?_
  rintro e w' ⟨rfl, hk, hb⟩
  refine ⟨?_, hb⟩
  have := F_blend_valid_eq n
  unfold F_blend_valid at this
  change KindsL [.b] (L_blend_valid _) at hk
  change Ending.returned (R_blend_valid.pack (L_blend_valid _)) = _
  generalize L_blend_valid [.int .i64 n] = l at *
  obtain ⟨_, _, rfl, ⟨y, rfl⟩, rfl⟩ := hk
  have e : y = decide (1 ≤ n ∧ n ≤ 12) := by
    have h : y = _ := this
    rw [h]
    by_cases a : n ≥ 1 <;> by_cases b : n ≤ 12 <;> simp [a, b]
  rw [e]
  rfl

theorem wName (n : Int) (h0 : IntKind.i64.min ≤ n) (h1 : n ≤ IntKind.i64.max) (w : World) (hw : InvN w) :
    Calls Tryz.prog 26 #[.int .i64 n] w (RetV (.string (modeName n)) w) := by
  unfold modeName
  by_cases hv : 1 ≤ n ∧ n ≤ 12
  · rw [if_pos hv]
    obtain ⟨v0, v1⟩ := hv
    obtain ⟨k, rfl⟩ := Int.eq_ofNat_of_zero_le (show 0 ≤ n by omega)
    have hk : k < 13 := by omega
    have hl : k < modeNames.length := hk
    obtain ⟨nm, hnm⟩ : ∃ nm, modeNames.getD k [] = nm := ⟨_, rfl⟩
    rw [Int.toNat_natCast, hnm]
    go_enter Tryz.func26, Tryz.ntmps26
    go_wp2_with fail
    refine (cValidM k h0 h1 _).mono ?_
    rintro e w1 ⟨rfl, hb⟩
    have hc : w1.cell? ⟨0, k, none⟩ = some (.string ⟨nm.toArray⟩) := by
      rw [← hnm, (invN_stays _ _ hw hb).cell]
      simp [modeCells, txt, List.getElem?_eq_getElem hl]
    simp only [v0, v1, and_self, decide_true]
    clear hl hnm
    go_wp2
    go_ret
    exact ⟨rfl, hb⟩
  · rw [if_neg hv]
    go_enter Tryz.func26, Tryz.ntmps26
    go_wp2_with fail
    refine (cValidM n h0 h1 _).mono ?_
    rintro e w1 ⟨rfl, hb⟩
    simp only [hv, decide_false]
    go_wp2
    go_ret
    exact ⟨rfl, hb⟩

theorem kS (s : ByteArray) : inKind .s (.string s) := ⟨_, rfl⟩
theorem ok_blend_Name : SumOK Tryz.prog InvN S_blend_Name := .of_plain rfl rfl fun vs hk w hw => .inl ⟨Tryz.call26 _ _, by
  obtain ⟨_, _, rfl, ⟨n, rfl, h0, h1⟩, rfl⟩ := hk
  exact (wName n h0 h1 w hw).mono fun e w' ⟨a, b⟩ => ⟨_, a, rfl, ⟨_, _, rfl, kS _, rfl⟩, b⟩⟩

theorem run_idx1 {P : Program} {t e len : Nat} {C : Array Value} {j : Nat} {v : Value} (w : World) (hu : P.underlying t = some (.array len e)) (ha : aggT P e = some false) (hs : sizeT P e = some 1) (hj : j < len) (hv : C[j]? = some v) : (Instr.index t (.agg C) (.int .i64 (j : Int))).run P w = .ok v w := by
  simp [Instr.index, run_underlying hu, asIntOf, run_size hs, Go.part, run_agg ha, hv, hj]


end Go.Proofs.YtfjhhadmncjdiaaGreatDoor
