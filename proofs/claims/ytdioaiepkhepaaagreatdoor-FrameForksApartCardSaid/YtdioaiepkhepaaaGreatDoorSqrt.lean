/- Walk: wide.Sqrt. Every number of 128 bits. -/
import Derived.Test.YtdioaiepkhepaaaGreatDoorWideAB
import Derived.Test.YtdioaiepkhepaaaGreatDoorNumMath
namespace Go.Proofs.YtdioaiepkhepaaaGreatDoor
set_option maxRecDepth 100000
open Go.RowKit
theorem cmpI_le {x y : Int} : cmpI x y ≤ 0 ↔ x ≤ y := by
 unfold cmpI
 by_cases h : x < y
 ·rw [if_pos h]; constructor <;> intro _ <;> omega
 ·rw [if_neg h]
  by_cases h2 : x = y
  ·rw [if_pos h2]; constructor <;> intro _ <;> omega
  ·rw [if_neg h2]; constructor <;> intro _ <;> omega
def RetSq (A : Int) (w : World) (e : Ending) (w' : World) : Prop :=
 ∃ x : Int, e = .returned (.int .u64 x) ∧ IsW x ∧ x * x ≤ A ∧ A < (x + 1) * (x + 1) ∧ Below w.heap.size w w'
theorem wSqrt (ah al A : Int) (ha : IsU ah al A) (w : World) :
 Calls Tryz.prog 110 #[.agg #[.int .u64 ah, .int .u64 al]] w (RetSq A w) := by
 have A1 := ha.lt
 have A0 := ha.nn
 have HI := Lib.hid (sq_start A0 A1)
 clear A0
 go_enter Tryz.func110, Tryz.ntmps110
 go_wp2
 go_loopw [3, 4] (fun v t wr => ∃ x b : Int, v = .int .u64 x ∧ t = .int .u64 b ∧ SqInv A x b ∧ Below w.heap.size w wr ∧ w.heap.size < wr.heap.size ∧ wr.cell? ⟨w.heap.size, 0, none⟩ = some (.int .u64 ah) ∧ wr.cell? ⟨w.heap.size, 1, none⟩ = some (.int .u64 al)) (fun _ t _ => (intOf t).toNat)
 case atStart => exact ⟨0, _, rfl, rfl, HI.out, by go_grown, by go_size, by go_cell, by go_cell⟩
 case round =>
  obtain ⟨x, b, rfl, rfl, hI, hB, hs, c0, c1⟩ := hrel
  have hx := sq_word hI A1
  have x0 := hI.1
  by_cases h0 : b = 0
  ·subst h0
   obtain ⟨_, e1, e2⟩ := sq_end hI
   have E1 := Lib.hid e1
   have E2 := Lib.hid e2
   clear e1 e2
   go_wp2
   go_ret
   exact ⟨x, rfl, ⟨x0, hx⟩, E1.out, E2.out, hB⟩
  ·obtain ⟨b0, b1, hor, t0, t1, hy, hn⟩ := sq_round hI h0 A1
   have HT : ∃ t, t = x + b := ⟨_, rfl⟩
   obtain ⟨t, ht⟩ := HT
   rw [← ht] at hor t0 t1 hy hn
   have T := Lib.hid ht
   clear ht h0
   have HY := Lib.hid hy
   have HN := Lib.hid hn
   clear hy hn
   go_wp2
   go_region_held3 (fun w' => w'.cell? ⟨w.heap.size, 0, none⟩ = some (.int .u64 ah) ∧ w'.cell? ⟨w.heap.size, 1, none⟩ = some (.int .u64 al)) ((first | exact ⟨c0, c1⟩ | exact ⟨(hc2 _ _ (by go_size)).trans c0, (hc2 _ _ (by go_size)).trans c1⟩ | exact ⟨(hc3 _ _ (by go_size)).trans ((hc2 _ _ (by go_size)).trans c0), (hc3 _ _ (by go_size)).trans ((hc2 _ _ (by go_size)).trans c1)⟩))
    (first
      | (go_at_call 91; refine (wMul t t ⟨t0, t1⟩ ⟨t0, t1⟩ _).mono ?_; rintro e w2 ⟨mh, ml, rfl, hm, hb⟩; obtain ⟨hB2, hs2, hc2, hf2, hz2⟩ := after (w0 := w) hb (by go_grown); have z20 : w.heap.size < w2.heap.size := hz2 _ (by go_size); clear hb hz2)
      | (go_at_call 116; refine (wCompare mh ml (t * t) ah al A hm ha _).mono ?_; rintro e w3 ⟨rfl, hb⟩; obtain ⟨hB3, hs3, hc3, hf3, hz3⟩ := after (w0 := w) hb (by go_grown); have z30 : w.heap.size < w3.heap.size := hz3 _ (by go_size); clear hb hz3))
   have d0 := (hc3 w.heap.size 0 (by go_size)).trans ((hc2 _ _ (by go_size)).trans c0)
   have d1 := (hc3 w.heap.size 1 (by go_size)).trans ((hc2 _ _ (by go_size)).trans c1)
   clear hc2 hc3 hf2 hf3
   by_cases hle : t * t ≤ A
   ·have hcm := cmpI_le.2 hle
    have HL := Lib.hid (HY.out hle)
    clear hle
    go_wp2
    go_roundw
    case rel => exact ⟨t, b / 2, rfl, rfl, HL.out, hB3, z30, d0, d1⟩
    case measure => simp [intOf]; omega
   ·have hcm : ¬ cmpI (t * t) A ≤ 0 := fun h => hle (cmpI_le.1 h)
    have HL := Lib.hid (HN.out (by omega))
    clear hle
    go_wp2
    go_roundw
    case rel => exact ⟨x, b / 2, rfl, rfl, HL.out, hB3, z30, d0, d1⟩
    case measure => simp [intOf]; omega
end Go.Proofs.YtdioaiepkhepaaaGreatDoor
