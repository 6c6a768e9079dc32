/- The variables that are laid, and the functions that read them. -/
import Derived.Test.YtiooegkbkahppaaDoorSm06
import Derived.Lib.LaidU8
import Derived.Lib.SmallJoins
import Derived.RowKit
namespace Go.Proofs.YtiooegkbkahppaaDoor
open Go.RowKit

def txt (l : List UInt8) : Value := .string ⟨l.toArray⟩
def modeNames : List (List UInt8) := [[], [110, 111, 114, 109, 97, 108], [109, 117, 108, 116, 105, 112, 108, 121], [115, 99, 114, 101, 101, 110], [111, 118, 101, 114, 108, 97, 121], [100, 97, 114, 107, 101, 110], [108, 105, 103, 104, 116, 101, 110], [99, 111, 108, 111, 114, 45, 100, 111, 100, 103, 101], [99, 111, 108, 111, 114, 45, 98, 117, 114, 110], [104, 97, 114, 100, 45, 108, 105, 103, 104, 116], [115, 111, 102, 116, 45, 108, 105, 103, 104, 116], [100, 105, 102, 102, 101, 114, 101, 110, 99, 101], [101, 120, 99, 108, 117, 115, 105, 111, 110]]
def modeCells : Array Value := (modeNames.map txt).toArray
/-- The laid variables hold what the text gives them. -/
def InvN (w : World) : Prop := w.var? Tryd.prog "compositor/blend.names" = some modeCells
theorem gnames : Tryd.prog.globalNamed "compositor/blend.names" = some 0 := by kernel_rfl
theorem invN_stays : Stays InvN := fun _ _ h hb => Joins.var_stays gnames h hb (Nat.le_refl _)
theorem SumOK.any {P : Program} {I : World → Prop} {s : Sum} (h : SumOK P Inv s) : SumOK P I s := fun vs hk w _ => h vs hk w trivial
theorem InvN.cell {w : World} (h : InvN w) (i : Nat) : w.cell? ⟨0, i, none⟩ = modeCells[i]? := World.var?_cell gnames h i

def modeName (n : Int) : ByteArray := if 1 ≤ n ∧ n ≤ 12 then ⟨(modeNames.getD n.toNat []).toArray⟩ else ⟨#[]⟩
def F_blend_Name (n : Int) : ByteArray := modeName n
def A_blend_Name : List PS := [.c (.i .i64)]
def R_blend_Name : RS := .one (.c .s)
def L_blend_Name : List Value → List Value
  | [.int _ n] => [.string (F_blend_Name n)]
  | _ => []
def S_blend_Name : Sum := ⟨27, L_blend_Name, A_blend_Name, R_blend_Name⟩

theorem cValidM (n : Int) (h0 : IntKind.i64.min ≤ n) (h1 : n ≤ IntKind.i64.max) (w : World) :
    Calls Tryd.prog 29 #[.int .i64 n] w (RetV (.bool (decide (1 ≤ n ∧ n ≤ 12))) w) := by
  refine (sumCalls (F := L_blend_valid) (A := A_blend_valid) (R := R_blend_valid) ok_blend_valid (vs := [.int .i64 n]) Tryd.call29 rfl rfl (κs := [.i .i64]) ⟨_, _, rfl, ⟨_, rfl, h0, h1⟩, rfl⟩ (w := w) trivial).mono ?_
  rintro e w' ⟨rfl, hk, hb⟩
  refine ⟨?_, hb⟩
  have := F_blend_valid_eq n
  unfold F_blend_valid at this
  change KindsL [.b] (L_blend_valid _) at hk
  change Ending.returned (R_blend_valid.pack (L_blend_valid _)) = _
  generalize L_blend_valid [.int .i64 n] = l at *
  obtain ⟨_, _, rfl, ⟨y, rfl⟩, rfl⟩ := hk
  have e : y = decide (1 ≤ n ∧ n ≤ 12) := by
    have h : y = _ := this
    rw [h]
    by_cases a : n ≥ 1 <;> by_cases b : n ≤ 12 <;> simp [a, b]
  rw [e]
  rfl

theorem wName (n : Int) (h0 : IntKind.i64.min ≤ n) (h1 : n ≤ IntKind.i64.max) (w : World) (hw : InvN w) :
    Calls Tryd.prog 27 #[.int .i64 n] w (RetV (.string (modeName n)) w) := by
  unfold modeName
  by_cases hv : 1 ≤ n ∧ n ≤ 12
  · rw [if_pos hv]
    obtain ⟨v0, v1⟩ := hv
    obtain ⟨k, rfl⟩ := Int.eq_ofNat_of_zero_le (show 0 ≤ n by omega)
    have hk : k < 13 := by omega
    have hl : k < modeNames.length := hk
    obtain ⟨nm, hnm⟩ : ∃ nm, modeNames.getD k [] = nm := ⟨_, rfl⟩
    rw [Int.toNat_natCast, hnm]
    go_enter Tryd.func27, Tryd.ntmps27
    go_wp2_with fail
    refine (cValidM k h0 h1 _).mono ?_
    rintro e w1 ⟨rfl, hb⟩
    have hc : w1.cell? ⟨0, k, none⟩ = some (.string ⟨nm.toArray⟩) := by
      rw [← hnm, (invN_stays _ _ hw hb).cell]
      simp [modeCells, txt, List.getElem?_eq_getElem hl]
    simp only [v0, v1, and_self, decide_true]
    clear hl hnm
    go_wp2
    go_ret
    exact ⟨rfl, hb⟩
  · rw [if_neg hv]
    go_enter Tryd.func27, Tryd.ntmps27
    go_wp2_with fail
    refine (cValidM n h0 h1 _).mono ?_
    rintro e w1 ⟨rfl, hb⟩
    simp only [hv, decide_false]
    go_wp2
    go_ret
    exact ⟨rfl, hb⟩

theorem kS (s : ByteArray) : inKind .s (.string s) := ⟨_, rfl⟩
theorem ok_blend_Name : SumOK Tryd.prog InvN S_blend_Name := fun vs hk w hw => .inl ⟨Tryd.call27 _ _, by
  obtain ⟨_, _, rfl, ⟨n, rfl, h0, h1⟩, rfl⟩ := hk
  exact (wName n h0 h1 w hw).mono fun e w' ⟨a, b⟩ => ⟨_, a, rfl, ⟨_, _, rfl, kS _, rfl⟩, b⟩⟩

theorem run_idx1 {P : Program} {t e len : Nat} {C : Array Value} {j : Nat} {v : Value} (w : World) (hu : P.underlying t = some (.array len e)) (ha : aggT P e = some false) (hs : sizeT P e = some 1) (hj : j < len) (hv : C[j]? = some v) : (Instr.index t (.agg C) (.int .i64 (j : Int))).run P w = .ok v w := by
  simp [Instr.index, run_underlying hu, asIntOf, run_size hs, Go.part, run_agg ha, hv, hj]
/-! Parse: the table from the front. -/
def parseFrom (s : ByteArray) : List (List UInt8) → Int → Int × Bool
  | [], _ => (0, false)
  | x :: xs, i => if (⟨x.toArray⟩ : ByteArray) = s ∧ 1 ≤ i ∧ i ≤ 12 then (i, true) else parseFrom s xs (i + 1)
def F_blend_Parse (s : ByteArray) : Int × Bool := parseFrom s modeNames 0
def A_blend_Parse : List PS := [.c .s]
def R_blend_Parse : RS := .tup [.c (.i .i64), .c .b]
def L_blend_Parse : List Value → List Value
  | [.string s] => [.int .i64 (F_blend_Parse s).1, .bool (F_blend_Parse s).2]
  | _ => []
def S_blend_Parse : Sum := ⟨24, L_blend_Parse, A_blend_Parse, R_blend_Parse⟩

theorem wParse (s : ByteArray) (w : World) (hw : InvN w) :
    Calls Tryd.prog 24 #[.string s] w (RetV (.tuple #[.int .i64 (F_blend_Parse s).1, .bool (F_blend_Parse s).2]) w) := by
  have hc0 := hw.cell 0
  have hc1 := hw.cell 1
  have hc2 := hw.cell 2
  have hc3 := hw.cell 3
  have hc4 := hw.cell 4
  have hc5 := hw.cell 5
  have hc6 := hw.cell 6
  have hc7 := hw.cell 7
  have hc8 := hw.cell 8
  have hc9 := hw.cell 9
  have hc10 := hw.cell 10
  have hc11 := hw.cell 11
  have hc12 := hw.cell 12
  simp only [modeCells, modeNames, List.map, txt] at hc0 hc1 hc2 hc3 hc4 hc5 hc6 hc7 hc8 hc9 hc10 hc11 hc12
  go_enter Tryd.func24, Tryd.ntmps24
  go_wp2_with fail
  go_loopw [7] (fun t wr => ∃ j : Nat, t = .int .i64 j ∧ j ≤ 13 ∧ parseFrom s (modeNames.drop j) j = F_blend_Parse s ∧ Below w.heap.size w wr) (fun t _ => 13 - (intOf t).toNat)
  case atStart => exact ⟨0, rfl, by decide, rfl, by go_grown⟩
  case round =>
    obtain ⟨j, rfl, hj, hI, hB⟩ := hrel
    by_cases h13 : j = 13
    · subst h13
      have hF : F_blend_Parse s = (0, false) := hI.symm
      clear hc0 hc1 hc2 hc3 hc4 hc5 hc6 hc7 hc8 hc9 hc10 hc11 hc12
      go_wp2
      go_returns
      refine ⟨?_, hB⟩
      rw [hF]
      rfl
    · clear hc0 hc1 hc2 hc3 hc4 hc5 hc6 hc7 hc8 hc9 hc10 hc11 hc12
      have hlt : j < 13 := by omega
      have hl : j < modeNames.length := hlt
      obtain ⟨nm, hnm⟩ : ∃ nm, modeNames[j] = nm := ⟨_, rfl⟩
      have hv : modeCells[j]? = some (.string ⟨nm.toArray⟩) := by simp [modeCells, txt, List.getElem?_eq_getElem hl, hnm]
      have hdrop : modeNames.drop j = nm :: modeNames.drop (j + 1) := by rw [List.drop_eq_getElem_cons hl, hnm]
      rw [hdrop] at hI
      simp only [parseFrom] at hI
      have hidx (w : World) := run_idx1 (P := Tryd.prog) (t := 67) w Tryd.underlying67 (by kernel_rfl) (by kernel_rfl) hlt hv
      simp only [modeCells, modeNames, List.map, txt] at hidx
      have hji : (j : Int) < 13 := by omega
      clear hj h13 hl hnm hv hdrop
      generalize (⟨nm.toArray⟩ : ByteArray) = st at *
      have hj0 : IntKind.i64.min ≤ (j : Int) := Int.le_trans (show IntKind.i64.min ≤ 0 by decide) (by omega)
      have hj1 : (j : Int) ≤ IntKind.i64.max := Int.le_trans (show (j : Int) ≤ 13 by omega) (by decide)
      have hnext := fun h : ¬ (st = s ∧ 1 ≤ (j : Int) ∧ (j : Int) ≤ 12) => (if_neg h).symm.trans hI
      have hhere := fun h : st = s ∧ 1 ≤ (j : Int) ∧ (j : Int) ≤ 12 => (if_pos h).symm.trans hI
      clear hI
      by_cases hs : st = s
      · subst hs
        by_cases h1 : 1 ≤ (j : Int)
        · have hF := hhere ⟨rfl, h1, by omega⟩
          clear hnext hhere
          go_wp2_with fail
          refine (cValidM j hj0 hj1 _).mono ?_
          rintro e w1 ⟨rfl, hb⟩
          have hd : decide (1 ≤ (j : Int) ∧ (j : Int) ≤ 12) = true := decide_eq_true ⟨h1, by omega⟩
          rw [hd]
          have hB1 := hB.trans (Joins.below_le hb hB.size)
          clear hidx
          go_wp2
          go_returns
          exact ⟨by rw [← hF]; rfl, hB1⟩
        · have hF := hnext (fun h => h1 h.2.1)
          clear hnext hhere
          go_wp2_with fail
          refine (cValidM j hj0 hj1 _).mono ?_
          rintro e w1 ⟨rfl, hb⟩
          have hd : decide (1 ≤ (j : Int) ∧ (j : Int) ≤ 12) = false := decide_eq_false (by omega)
          rw [hd]
          have hB1 := hB.trans (Joins.below_le hb hB.size)
          clear hidx
          go_wp2
          exact ⟨⟨j + 1, by simp, by omega, hF, hB1⟩, by simp [intOf]; omega⟩
      · have hF := hnext (fun h => hs h.1)
        clear hnext hhere
        clear hw hj0 hj1
        have hs2 : ¬ st.toList = s.toList := fun h => hs (by
          rw [ByteArray.toList_eq, ByteArray.toList_eq] at h
          exact WideShapes.bytes_inj h)
        go_wp2_with fail
        exact ⟨⟨j + 1, by simp, by omega, hF, hB⟩, by simp [intOf]; omega⟩

theorem ok_blend_Parse : SumOK Tryd.prog InvN S_blend_Parse := fun vs hk w hw => .inl ⟨Tryd.call24 _ _, by
  obtain ⟨_, _, rfl, ⟨s, rfl⟩, rfl⟩ := hk
  have hr : ∀ (l : List (List UInt8)) (i : Int), 0 ≤ i → inKind (.i .i64) (.int .i64 (parseFrom s l i).1) := by
    intro l
    induction l with
    | nil => intro i _; exact ⟨0, rfl, by decide, by decide⟩
    | cons x xs ih =>
      intro i hi
      simp only [parseFrom]
      split
      · rename_i h
        exact ⟨i, rfl, Int.le_trans (show IntKind.i64.min ≤ 0 by decide) hi, Int.le_trans h.2.2 (by decide)⟩
      · exact ih (i + 1) (by omega)
  exact (wParse s w hw).mono fun e w' ⟨a, b⟩ => ⟨_, a, rfl, ⟨_, _, rfl, hr _ 0 (by decide), _, _, rfl, ⟨_, rfl⟩, rfl⟩, b⟩⟩
end Go.Proofs.YtiooegkbkahppaaDoor
