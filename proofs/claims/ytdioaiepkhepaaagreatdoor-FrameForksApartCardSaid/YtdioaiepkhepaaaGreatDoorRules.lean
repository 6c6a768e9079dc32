/- The operators' table: what operator.find reads of it. -/
import Derived.Test.YtdioaiepkhepaaaGreatDoorNames
namespace Go.Proofs.YtdioaiepkhepaaaGreatDoor
set_option maxRecDepth 100000
open Go.RowKit
def ruleAt (n : Int) : List UInt8 × Int × Int × Int := rulesL.getD n.toNat ([], 0, 0, 0)
def F_operator_find (n : Int) : ByteArray × Int × Int × Int × Bool := if 1 ≤ n ∧ n ≤ 12 then (⟨(ruleAt n).1.toArray⟩, (ruleAt n).2.1, (ruleAt n).2.2.1, (ruleAt n).2.2.2, true) else (⟨#[]⟩, 0, 0, 0, false)
def A_operator_find : List PS := [.c (.i .i64)]
def R_operator_find : RS := .tup [.agg [.s, .i .i64, .i .i64, .i .i64], .c .b]
def L_operator_find : List Value → List Value
 | [.int _ n] => [.string (F_operator_find n).1, .int .i64 (F_operator_find n).2.1, .int .i64 (F_operator_find n).2.2.1, .int .i64 (F_operator_find n).2.2.2.1, .bool (F_operator_find n).2.2.2.2]
 | _ => []
def S_operator_find : Sum := ⟨79, L_operator_find, A_operator_find, R_operator_find⟩
theorem cell_lt {w : World} {b o : Nat} {v : Value} (h : w.cell? ⟨b, o, none⟩ = some v) : b < w.heap.size := by
 rcases Nat.lt_or_ge b w.heap.size with k | k
 ·exact k
 ·simp [World.cell?, Array.getElem?_eq_none k] at h
theorem wFind0 (n : Int) (h : ¬ (1 ≤ n ∧ n ≤ 12)) (w : World) :
 Calls Tryz.prog 79 #[.int .i64 n] w (RetV (.tuple #[.agg #[.string ⟨#[]⟩, .int .i64 0, .int .i64 0, .int .i64 0], .bool false]) w) := by
 by_cases h1 : n < 1
 ·go_enter Tryz.func79, Tryz.ntmps79
  go_wp2
  refine bodyPost_ret (v := .tuple #[.agg #[.string ⟨#[]⟩, .int .i64 0, .int .i64 0, .int .i64 0], .bool false]) (by simp (maxDischargeDepth := 8) [results, Tryz.results79, go_sem, *]) rfl ?_
  exact ⟨rfl, by go_grown⟩
 ·have h2 : 13 ≤ n := by omega
  go_enter Tryz.func79, Tryz.ntmps79
  go_wp2
  refine bodyPost_ret (v := .tuple #[.agg #[.string ⟨#[]⟩, .int .i64 0, .int .i64 0, .int .i64 0], .bool false]) (by simp (maxDischargeDepth := 8) [results, Tryz.results79, go_sem, *]) rfl ?_
  exact ⟨rfl, by go_grown⟩
theorem wFind1 (w : World) (hw : InvN w) : Calls Tryz.prog 79 #[.int .i64 1] w (RetV (.tuple #[.agg #[.string ⟨#[99, 108, 101, 97, 114]⟩, .int .i64 0, .int .i64 0, .int .i64 0], .bool true]) w) := by
 have hc0 : w.cell? ⟨0, 4, none⟩ = some (.string ⟨#[99, 108, 101, 97, 114]⟩) := (hw.rule 4).trans (by kernel_rfl)
 have hc1 : w.cell? ⟨0, 5, none⟩ = some (.int .i64 0) := (hw.rule 5).trans (by kernel_rfl)
 have hc2 : w.cell? ⟨0, 6, none⟩ = some (.int .i64 0) := (hw.rule 6).trans (by kernel_rfl)
 have hc3 : w.cell? ⟨0, 7, none⟩ = some (.int .i64 0) := (hw.rule 7).trans (by kernel_rfl)
 have hg : 0 < w.heap.size := cell_lt hc0
 clear hw
 go_enter Tryz.func79, Tryz.ntmps79
 go_wp2
 refine bodyPost_ret (v := .tuple #[.agg #[.string ⟨#[99, 108, 101, 97, 114]⟩, .int .i64 0, .int .i64 0, .int .i64 0], .bool true]) (by simp (maxDischargeDepth := 8) [results, Tryz.results79, go_sem, *]) rfl ?_
 exact ⟨rfl, by go_grown⟩
theorem wFind2 (w : World) (hw : InvN w) : Calls Tryz.prog 79 #[.int .i64 2] w (RetV (.tuple #[.agg #[.string ⟨#[115, 114, 99]⟩, .int .i64 1, .int .i64 0, .int .i64 1], .bool true]) w) := by
 have hc0 : w.cell? ⟨0, 8, none⟩ = some (.string ⟨#[115, 114, 99]⟩) := (hw.rule 8).trans (by kernel_rfl)
 have hc1 : w.cell? ⟨0, 9, none⟩ = some (.int .i64 1) := (hw.rule 9).trans (by kernel_rfl)
 have hc2 : w.cell? ⟨0, 10, none⟩ = some (.int .i64 0) := (hw.rule 10).trans (by kernel_rfl)
 have hc3 : w.cell? ⟨0, 11, none⟩ = some (.int .i64 1) := (hw.rule 11).trans (by kernel_rfl)
 have hg : 0 < w.heap.size := cell_lt hc0
 clear hw
 go_enter Tryz.func79, Tryz.ntmps79
 go_wp2
 refine bodyPost_ret (v := .tuple #[.agg #[.string ⟨#[115, 114, 99]⟩, .int .i64 1, .int .i64 0, .int .i64 1], .bool true]) (by simp (maxDischargeDepth := 8) [results, Tryz.results79, go_sem, *]) rfl ?_
 exact ⟨rfl, by go_grown⟩
theorem wFind3 (w : World) (hw : InvN w) : Calls Tryz.prog 79 #[.int .i64 3] w (RetV (.tuple #[.agg #[.string ⟨#[100, 115, 116]⟩, .int .i64 0, .int .i64 1, .int .i64 2], .bool true]) w) := by
 have hc0 : w.cell? ⟨0, 12, none⟩ = some (.string ⟨#[100, 115, 116]⟩) := (hw.rule 12).trans (by kernel_rfl)
 have hc1 : w.cell? ⟨0, 13, none⟩ = some (.int .i64 0) := (hw.rule 13).trans (by kernel_rfl)
 have hc2 : w.cell? ⟨0, 14, none⟩ = some (.int .i64 1) := (hw.rule 14).trans (by kernel_rfl)
 have hc3 : w.cell? ⟨0, 15, none⟩ = some (.int .i64 2) := (hw.rule 15).trans (by kernel_rfl)
 have hg : 0 < w.heap.size := cell_lt hc0
 clear hw
 go_enter Tryz.func79, Tryz.ntmps79
 go_wp2
 refine bodyPost_ret (v := .tuple #[.agg #[.string ⟨#[100, 115, 116]⟩, .int .i64 0, .int .i64 1, .int .i64 2], .bool true]) (by simp (maxDischargeDepth := 8) [results, Tryz.results79, go_sem, *]) rfl ?_
 exact ⟨rfl, by go_grown⟩
theorem wFind4 (w : World) (hw : InvN w) : Calls Tryz.prog 79 #[.int .i64 4] w (RetV (.tuple #[.agg #[.string ⟨#[115, 114, 99, 45, 111, 118, 101, 114]⟩, .int .i64 1, .int .i64 3, .int .i64 3], .bool true]) w) := by
 have hc0 : w.cell? ⟨0, 16, none⟩ = some (.string ⟨#[115, 114, 99, 45, 111, 118, 101, 114]⟩) := (hw.rule 16).trans (by kernel_rfl)
 have hc1 : w.cell? ⟨0, 17, none⟩ = some (.int .i64 1) := (hw.rule 17).trans (by kernel_rfl)
 have hc2 : w.cell? ⟨0, 18, none⟩ = some (.int .i64 3) := (hw.rule 18).trans (by kernel_rfl)
 have hc3 : w.cell? ⟨0, 19, none⟩ = some (.int .i64 3) := (hw.rule 19).trans (by kernel_rfl)
 have hg : 0 < w.heap.size := cell_lt hc0
 clear hw
 go_enter Tryz.func79, Tryz.ntmps79
 go_wp2
 refine bodyPost_ret (v := .tuple #[.agg #[.string ⟨#[115, 114, 99, 45, 111, 118, 101, 114]⟩, .int .i64 1, .int .i64 3, .int .i64 3], .bool true]) (by simp (maxDischargeDepth := 8) [results, Tryz.results79, go_sem, *]) rfl ?_
 exact ⟨rfl, by go_grown⟩
theorem wFind5 (w : World) (hw : InvN w) : Calls Tryz.prog 79 #[.int .i64 5] w (RetV (.tuple #[.agg #[.string ⟨#[100, 115, 116, 45, 111, 118, 101, 114]⟩, .int .i64 3, .int .i64 1, .int .i64 3], .bool true]) w) := by
 have hc0 : w.cell? ⟨0, 20, none⟩ = some (.string ⟨#[100, 115, 116, 45, 111, 118, 101, 114]⟩) := (hw.rule 20).trans (by kernel_rfl)
 have hc1 : w.cell? ⟨0, 21, none⟩ = some (.int .i64 3) := (hw.rule 21).trans (by kernel_rfl)
 have hc2 : w.cell? ⟨0, 22, none⟩ = some (.int .i64 1) := (hw.rule 22).trans (by kernel_rfl)
 have hc3 : w.cell? ⟨0, 23, none⟩ = some (.int .i64 3) := (hw.rule 23).trans (by kernel_rfl)
 have hg : 0 < w.heap.size := cell_lt hc0
 clear hw
 go_enter Tryz.func79, Tryz.ntmps79
 go_wp2
 refine bodyPost_ret (v := .tuple #[.agg #[.string ⟨#[100, 115, 116, 45, 111, 118, 101, 114]⟩, .int .i64 3, .int .i64 1, .int .i64 3], .bool true]) (by simp (maxDischargeDepth := 8) [results, Tryz.results79, go_sem, *]) rfl ?_
 exact ⟨rfl, by go_grown⟩
theorem wFind6 (w : World) (hw : InvN w) : Calls Tryz.prog 79 #[.int .i64 6] w (RetV (.tuple #[.agg #[.string ⟨#[115, 114, 99, 45, 105, 110]⟩, .int .i64 2, .int .i64 0, .int .i64 4], .bool true]) w) := by
 have hc0 : w.cell? ⟨0, 24, none⟩ = some (.string ⟨#[115, 114, 99, 45, 105, 110]⟩) := (hw.rule 24).trans (by kernel_rfl)
 have hc1 : w.cell? ⟨0, 25, none⟩ = some (.int .i64 2) := (hw.rule 25).trans (by kernel_rfl)
 have hc2 : w.cell? ⟨0, 26, none⟩ = some (.int .i64 0) := (hw.rule 26).trans (by kernel_rfl)
 have hc3 : w.cell? ⟨0, 27, none⟩ = some (.int .i64 4) := (hw.rule 27).trans (by kernel_rfl)
 have hg : 0 < w.heap.size := cell_lt hc0
 clear hw
 go_enter Tryz.func79, Tryz.ntmps79
 go_wp2
 refine bodyPost_ret (v := .tuple #[.agg #[.string ⟨#[115, 114, 99, 45, 105, 110]⟩, .int .i64 2, .int .i64 0, .int .i64 4], .bool true]) (by simp (maxDischargeDepth := 8) [results, Tryz.results79, go_sem, *]) rfl ?_
 exact ⟨rfl, by go_grown⟩
theorem wFind7 (w : World) (hw : InvN w) : Calls Tryz.prog 79 #[.int .i64 7] w (RetV (.tuple #[.agg #[.string ⟨#[100, 115, 116, 45, 105, 110]⟩, .int .i64 0, .int .i64 2, .int .i64 4], .bool true]) w) := by
 have hc0 : w.cell? ⟨0, 28, none⟩ = some (.string ⟨#[100, 115, 116, 45, 105, 110]⟩) := (hw.rule 28).trans (by kernel_rfl)
 have hc1 : w.cell? ⟨0, 29, none⟩ = some (.int .i64 0) := (hw.rule 29).trans (by kernel_rfl)
 have hc2 : w.cell? ⟨0, 30, none⟩ = some (.int .i64 2) := (hw.rule 30).trans (by kernel_rfl)
 have hc3 : w.cell? ⟨0, 31, none⟩ = some (.int .i64 4) := (hw.rule 31).trans (by kernel_rfl)
 have hg : 0 < w.heap.size := cell_lt hc0
 clear hw
 go_enter Tryz.func79, Tryz.ntmps79
 go_wp2
 refine bodyPost_ret (v := .tuple #[.agg #[.string ⟨#[100, 115, 116, 45, 105, 110]⟩, .int .i64 0, .int .i64 2, .int .i64 4], .bool true]) (by simp (maxDischargeDepth := 8) [results, Tryz.results79, go_sem, *]) rfl ?_
 exact ⟨rfl, by go_grown⟩
theorem wFind8 (w : World) (hw : InvN w) : Calls Tryz.prog 79 #[.int .i64 8] w (RetV (.tuple #[.agg #[.string ⟨#[115, 114, 99, 45, 111, 117, 116]⟩, .int .i64 3, .int .i64 0, .int .i64 1], .bool true]) w) := by
 have hc0 : w.cell? ⟨0, 32, none⟩ = some (.string ⟨#[115, 114, 99, 45, 111, 117, 116]⟩) := (hw.rule 32).trans (by kernel_rfl)
 have hc1 : w.cell? ⟨0, 33, none⟩ = some (.int .i64 3) := (hw.rule 33).trans (by kernel_rfl)
 have hc2 : w.cell? ⟨0, 34, none⟩ = some (.int .i64 0) := (hw.rule 34).trans (by kernel_rfl)
 have hc3 : w.cell? ⟨0, 35, none⟩ = some (.int .i64 1) := (hw.rule 35).trans (by kernel_rfl)
 have hg : 0 < w.heap.size := cell_lt hc0
 clear hw
 go_enter Tryz.func79, Tryz.ntmps79
 go_wp2
 refine bodyPost_ret (v := .tuple #[.agg #[.string ⟨#[115, 114, 99, 45, 111, 117, 116]⟩, .int .i64 3, .int .i64 0, .int .i64 1], .bool true]) (by simp (maxDischargeDepth := 8) [results, Tryz.results79, go_sem, *]) rfl ?_
 exact ⟨rfl, by go_grown⟩
theorem wFind9 (w : World) (hw : InvN w) : Calls Tryz.prog 79 #[.int .i64 9] w (RetV (.tuple #[.agg #[.string ⟨#[100, 115, 116, 45, 111, 117, 116]⟩, .int .i64 0, .int .i64 3, .int .i64 2], .bool true]) w) := by
 have hc0 : w.cell? ⟨0, 36, none⟩ = some (.string ⟨#[100, 115, 116, 45, 111, 117, 116]⟩) := (hw.rule 36).trans (by kernel_rfl)
 have hc1 : w.cell? ⟨0, 37, none⟩ = some (.int .i64 0) := (hw.rule 37).trans (by kernel_rfl)
 have hc2 : w.cell? ⟨0, 38, none⟩ = some (.int .i64 3) := (hw.rule 38).trans (by kernel_rfl)
 have hc3 : w.cell? ⟨0, 39, none⟩ = some (.int .i64 2) := (hw.rule 39).trans (by kernel_rfl)
 have hg : 0 < w.heap.size := cell_lt hc0
 clear hw
 go_enter Tryz.func79, Tryz.ntmps79
 go_wp2
 refine bodyPost_ret (v := .tuple #[.agg #[.string ⟨#[100, 115, 116, 45, 111, 117, 116]⟩, .int .i64 0, .int .i64 3, .int .i64 2], .bool true]) (by simp (maxDischargeDepth := 8) [results, Tryz.results79, go_sem, *]) rfl ?_
 exact ⟨rfl, by go_grown⟩
theorem wFind10 (w : World) (hw : InvN w) : Calls Tryz.prog 79 #[.int .i64 10] w (RetV (.tuple #[.agg #[.string ⟨#[115, 114, 99, 45, 97, 116, 111, 112]⟩, .int .i64 2, .int .i64 3, .int .i64 2], .bool true]) w) := by
 have hc0 : w.cell? ⟨0, 40, none⟩ = some (.string ⟨#[115, 114, 99, 45, 97, 116, 111, 112]⟩) := (hw.rule 40).trans (by kernel_rfl)
 have hc1 : w.cell? ⟨0, 41, none⟩ = some (.int .i64 2) := (hw.rule 41).trans (by kernel_rfl)
 have hc2 : w.cell? ⟨0, 42, none⟩ = some (.int .i64 3) := (hw.rule 42).trans (by kernel_rfl)
 have hc3 : w.cell? ⟨0, 43, none⟩ = some (.int .i64 2) := (hw.rule 43).trans (by kernel_rfl)
 have hg : 0 < w.heap.size := cell_lt hc0
 clear hw
 go_enter Tryz.func79, Tryz.ntmps79
 go_wp2
 refine bodyPost_ret (v := .tuple #[.agg #[.string ⟨#[115, 114, 99, 45, 97, 116, 111, 112]⟩, .int .i64 2, .int .i64 3, .int .i64 2], .bool true]) (by simp (maxDischargeDepth := 8) [results, Tryz.results79, go_sem, *]) rfl ?_
 exact ⟨rfl, by go_grown⟩
theorem wFind11 (w : World) (hw : InvN w) : Calls Tryz.prog 79 #[.int .i64 11] w (RetV (.tuple #[.agg #[.string ⟨#[100, 115, 116, 45, 97, 116, 111, 112]⟩, .int .i64 3, .int .i64 2, .int .i64 1], .bool true]) w) := by
 have hc0 : w.cell? ⟨0, 44, none⟩ = some (.string ⟨#[100, 115, 116, 45, 97, 116, 111, 112]⟩) := (hw.rule 44).trans (by kernel_rfl)
 have hc1 : w.cell? ⟨0, 45, none⟩ = some (.int .i64 3) := (hw.rule 45).trans (by kernel_rfl)
 have hc2 : w.cell? ⟨0, 46, none⟩ = some (.int .i64 2) := (hw.rule 46).trans (by kernel_rfl)
 have hc3 : w.cell? ⟨0, 47, none⟩ = some (.int .i64 1) := (hw.rule 47).trans (by kernel_rfl)
 have hg : 0 < w.heap.size := cell_lt hc0
 clear hw
 go_enter Tryz.func79, Tryz.ntmps79
 go_wp2
 refine bodyPost_ret (v := .tuple #[.agg #[.string ⟨#[100, 115, 116, 45, 97, 116, 111, 112]⟩, .int .i64 3, .int .i64 2, .int .i64 1], .bool true]) (by simp (maxDischargeDepth := 8) [results, Tryz.results79, go_sem, *]) rfl ?_
 exact ⟨rfl, by go_grown⟩
theorem wFind12 (w : World) (hw : InvN w) : Calls Tryz.prog 79 #[.int .i64 12] w (RetV (.tuple #[.agg #[.string ⟨#[120, 111, 114]⟩, .int .i64 3, .int .i64 3, .int .i64 3], .bool true]) w) := by
 have hc0 : w.cell? ⟨0, 48, none⟩ = some (.string ⟨#[120, 111, 114]⟩) := (hw.rule 48).trans (by kernel_rfl)
 have hc1 : w.cell? ⟨0, 49, none⟩ = some (.int .i64 3) := (hw.rule 49).trans (by kernel_rfl)
 have hc2 : w.cell? ⟨0, 50, none⟩ = some (.int .i64 3) := (hw.rule 50).trans (by kernel_rfl)
 have hc3 : w.cell? ⟨0, 51, none⟩ = some (.int .i64 3) := (hw.rule 51).trans (by kernel_rfl)
 have hg : 0 < w.heap.size := cell_lt hc0
 clear hw
 go_enter Tryz.func79, Tryz.ntmps79
 go_wp2
 refine bodyPost_ret (v := .tuple #[.agg #[.string ⟨#[120, 111, 114]⟩, .int .i64 3, .int .i64 3, .int .i64 3], .bool true]) (by simp (maxDischargeDepth := 8) [results, Tryz.results79, go_sem, *]) rfl ?_
 exact ⟨rfl, by go_grown⟩
theorem find_at {n : Int} {w : World} {s : ByteArray} {a b c : Int} {t : Bool} (h : Calls Tryz.prog 79 #[.int .i64 n] w (RetV (.tuple #[.agg #[.string s, .int .i64 a, .int .i64 b, .int .i64 c], .bool t]) w)) (e : F_operator_find n = (s, a, b, c, t))
 (ha : inKind (.i .i64) (.int .i64 a)) (hb : inKind (.i .i64) (.int .i64 b)) (hc : inKind (.i .i64) (.int .i64 c)) :
 Calls Tryz.prog 79 #[.int .i64 n] w fun e w' => ∃ v, e = .returned v ∧ v = R_operator_find.pack (L_operator_find [.int .i64 n]) ∧ KindsL R_operator_find.kinds (L_operator_find [.int .i64 n]) ∧ Below w.heap.size w w' := by
 refine h.mono fun e' w' ⟨h1, h2⟩ => ?_
 simp only [L_operator_find, e]
 exact ⟨_, h1, rfl, ⟨_, _, rfl, ⟨_, rfl⟩, _, _, rfl, ha, _, _, rfl, hb, _, _, rfl, hc, _, _, rfl, ⟨_, rfl⟩, rfl⟩, h2⟩
theorem k_small {x : Int} (h0 : 0 ≤ x) (h1 : x ≤ 4) : inKind (.i .i64) (.int .i64 x) := ⟨x, rfl, Int.le_trans (by decide) h0, Int.le_trans h1 (by decide)⟩
theorem ok_operator_find : SumOK Tryz.prog InvN S_operator_find := .of_plain rfl rfl fun vs hk w hw => .inl ⟨Tryz.call79 _ _, by
 obtain ⟨_, _, rfl, ⟨n, rfl, h0, h1⟩, rfl⟩ := hk
 by_cases h : 1 ≤ n ∧ n ≤ 12
 ·obtain ⟨k0, k1⟩ := h
  have hc : n = 1 ∨ n = 2 ∨ n = 3 ∨ n = 4 ∨ n = 5 ∨ n = 6 ∨ n = 7 ∨ n = 8 ∨ n = 9 ∨ n = 10 ∨ n = 11 ∨ n = 12 := by omega
  rcases hc with rfl | rfl | rfl | rfl | rfl | rfl | rfl | rfl | rfl | rfl | rfl | rfl
  ·exact find_at (wFind1 w hw) rfl (k_small (by decide) (by decide)) (k_small (by decide) (by decide)) (k_small (by decide) (by decide))
  ·exact find_at (wFind2 w hw) rfl (k_small (by decide) (by decide)) (k_small (by decide) (by decide)) (k_small (by decide) (by decide))
  ·exact find_at (wFind3 w hw) rfl (k_small (by decide) (by decide)) (k_small (by decide) (by decide)) (k_small (by decide) (by decide))
  ·exact find_at (wFind4 w hw) rfl (k_small (by decide) (by decide)) (k_small (by decide) (by decide)) (k_small (by decide) (by decide))
  ·exact find_at (wFind5 w hw) rfl (k_small (by decide) (by decide)) (k_small (by decide) (by decide)) (k_small (by decide) (by decide))
  ·exact find_at (wFind6 w hw) rfl (k_small (by decide) (by decide)) (k_small (by decide) (by decide)) (k_small (by decide) (by decide))
  ·exact find_at (wFind7 w hw) rfl (k_small (by decide) (by decide)) (k_small (by decide) (by decide)) (k_small (by decide) (by decide))
  ·exact find_at (wFind8 w hw) rfl (k_small (by decide) (by decide)) (k_small (by decide) (by decide)) (k_small (by decide) (by decide))
  ·exact find_at (wFind9 w hw) rfl (k_small (by decide) (by decide)) (k_small (by decide) (by decide)) (k_small (by decide) (by decide))
  ·exact find_at (wFind10 w hw) rfl (k_small (by decide) (by decide)) (k_small (by decide) (by decide)) (k_small (by decide) (by decide))
  ·exact find_at (wFind11 w hw) rfl (k_small (by decide) (by decide)) (k_small (by decide) (by decide)) (k_small (by decide) (by decide))
  ·exact find_at (wFind12 w hw) rfl (k_small (by decide) (by decide)) (k_small (by decide) (by decide)) (k_small (by decide) (by decide))
 ·exact find_at (wFind0 n h w) (if_neg h) (k_small (by decide) (by decide)) (k_small (by decide) (by decide)) (k_small (by decide) (by decide))⟩
end Go.Proofs.YtdioaiepkhepaaaGreatDoor
