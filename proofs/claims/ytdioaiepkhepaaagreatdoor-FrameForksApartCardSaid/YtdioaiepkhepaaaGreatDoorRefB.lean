/- Walk: ref01.MulSmall (by doubling). Every number and factor. -/
import Derived.Test.YtdioaiepkhepaaaGreatDoorRefA
import Derived.Test.YtdioaiepkhepaaaGreatDoorRefMath
namespace Go.Proofs.YtdioaiepkhepaaaGreatDoor
set_option maxRecDepth 100000
open Go.RowKit
def RetMS (X : Int) (w : World) (e : Ending) (w' : World) : Prop :=
 (X < 340282366920938463463374607431768211456 ∧ RetUB X true w e w') ∨ (340282366920938463463374607431768211456 ≤ X ∧ RetUB 0 false w e w')
theorem ms_odd {o a k X : Int} (h : o + a * k = X) (hk : k % 2 = 1) : o + a + a * 2 * (k / 2) = X := by
 have e : k = 1 + 2 * (k / 2) := by omega
 rw [← h, Int.mul_assoc]
 conv => rhs; rw [e, Int.mul_add, Int.mul_one]
 omega
theorem ms_even {o a k X : Int} (h : o + a * k = X) (hk : k % 2 = 0) : o + a * 2 * (k / 2) = X := by
 have e : k = 2 * (k / 2) := by omega
 rw [← h, Int.mul_assoc, ← e]
theorem ms_le {o a k X : Int} (h : o + a * k = X) (ha : 0 ≤ a) (hk : 1 ≤ k) : o + a ≤ X := by
 have : a * 1 ≤ a * k := Int.mul_le_mul_of_nonneg_left hk ha
 omega
theorem ms_le2 {o a k X : Int} (h : o + a * 2 * k = X) (ho : 0 ≤ o) (ha : 0 ≤ a) (hk : 1 ≤ k) : a + a ≤ X := by
 have : a * 2 * 1 ≤ a * 2 * k := Int.mul_le_mul_of_nonneg_left hk (by omega)
 omega
set_option maxHeartbeats 2000000 in
theorem rMulSmall (ah0 al0 A K : Int) (ha0 : IsU ah0 al0 A) (hk0 : IsW K) (w : World) :
 Calls Tryz.prog 105 #[.agg #[.int .u64 ah0, .int .u64 al0], .int .u64 K] w (RetMS (A * K) w) := by
 have HI : Hid (0 + A * K = A * K) := by show _ = _; omega
 go_enter Tryz.func105, Tryz.ntmps105
 go_wp2
 go_loopw [1, 7] (fun kv ov wr => ∃ k ah al a oh ol o : Int, kv = .int .u64 k ∧ ov = .bool true ∧ IsW k ∧ IsU ah al a ∧ IsU oh ol o ∧ Hid (o + a * k = A * K) ∧ Below w.heap.size w wr ∧ w.heap.size < wr.heap.size ∧ w.heap.size + 1 < wr.heap.size ∧ w.heap.size + 1 + 1 < wr.heap.size ∧
  wr.cell? ⟨w.heap.size, 0, none⟩ = some (.int .u64 ah) ∧ wr.cell? ⟨w.heap.size, 1, none⟩ = some (.int .u64 al) ∧ wr.cell? ⟨w.heap.size + 1, 0, none⟩ = some (.int .u64 0) ∧ wr.cell? ⟨w.heap.size + 1, 1, none⟩ = some (.int .u64 0) ∧ wr.cell? ⟨w.heap.size + 1 + 1, 0, none⟩ = some (.int .u64 oh) ∧ wr.cell? ⟨w.heap.size + 1 + 1, 1, none⟩ = some (.int .u64 ol) ∧
  (∀ x, wr.frozen? ⟨w.heap.size, x, none⟩ = false) ∧ (∀ x, wr.frozen? ⟨w.heap.size + 1, x, none⟩ = false) ∧ (∀ x, wr.frozen? ⟨w.heap.size + 1 + 1, x, none⟩ = false)) (fun kv _ _ => (intOf kv).toNat)
 case atStart => exact ⟨K, ah0, al0, A, 0, 0, 0, rfl, rfl, hk0, ha0, IsU.zero, HI, by go_grown, by go_size, by go_size, by go_size, by go_cell, by go_cell, by go_cell, by go_cell, by go_cell, by go_cell, by intro x; simp [go_sem], by intro x; simp [go_sem], by intro x; simp [go_sem]⟩
 case round =>
  clear HI
  obtain ⟨k, ah, al, a, oh, ol, o, rfl, rfl, hk, ha, ho, HI, hB, s0, s1, s2, c0, c1, c2, c3, c4, c5, f0, f1, f2⟩ := hrel
  have k0 := hk.1
  have k1 := hk.2
  by_cases hz : k = 0
  ·subst hz
   have E : o = A * K := by have := HI.out; simpa using this
   go_wp2
   refine bodyPost_ret (v := .tuple #[.agg #[.int .u64 oh, .int .u64 ol], .bool true]) (by simp (maxDischargeDepth := 8) [results, Tryz.results105, go_sem, *]) rfl ?_
   exact Or.inl ⟨by rw [← E]; exact ho.lt, oh, ol, rfl, by rw [← E]; exact ho, by go_grown⟩
  ·have hk2 : 0 < k := by omega
   by_cases hodd : k % 2 = 1
   ·have hb1 := and_one_t k0 k1 hodd
    have HO := Lib.hid (ms_odd HI.out hodd)
    have HL := Lib.hid (ms_le HI.out ha.nn (by omega))
    clear hz hodd
    by_cases hfit : o + a < 340282366920938463463374607431768211456
    ·go_wp2_with fail
     refine (rAdd_fit oh ol o ah al a ho ha hfit _).mono ?_
     rintro e w1 ⟨sh, sl, rfl, hs, hb⟩
     obtain ⟨hB1, hs1, hc1, hf1, hz1⟩ := after (w0 := w) hb (by go_grown); have z10 : w.heap.size < w1.heap.size := hz1 _ (by go_size); have z11 : w.heap.size + 1 < w1.heap.size := hz1 _ (by go_size); have z12 : w.heap.size + 1 + 1 < w1.heap.size := hz1 _ (by go_size); clear hb hz1
     clear hfit HL
     by_cases hk3 : 0 < k / 2
     ·have HL2 := Lib.hid (ms_le2 HO.out hs.nn ha.nn (by omega))
      by_cases hfit2 : a + a < 340282366920938463463374607431768211456
      ·go_wp2_with fail
       refine (rAdd_fit ah al a ah al a ha ha hfit2 _).mono ?_
       rintro e w2 ⟨th, tl, rfl, ht, hb⟩
       obtain ⟨hB2, hs2, hc2, hf2, hz2⟩ := after (w0 := w) hb (by go_grown); have z20 : w.heap.size < w2.heap.size := hz2 _ (by go_size); have z21 : w.heap.size + 1 < w2.heap.size := hz2 _ (by go_size); have z22 : w.heap.size + 1 + 1 < w2.heap.size := hz2 _ (by go_size); clear hb hz2
       have e2 : a * 2 = a + a := by omega
       have ht2 : IsU th tl (a * 2) := by rw [e2]; exact ht
       clear e2
       clear hfit2 HL2
       go_wp2
       go_roundw
       case rel => exact ⟨k / 2, th, tl, a * 2, sh, sl, (o + a), rfl, rfl, ⟨by omega, by omega⟩, ht2, hs, HO, by go_grown, by go_size, by go_size, by go_size, by (simp (maxDischargeDepth := 8) [go_sem, *]; done), by (simp (maxDischargeDepth := 8) [go_sem, *]; done), by (simp (maxDischargeDepth := 8) [go_sem, *]; done), by (simp (maxDischargeDepth := 8) [go_sem, *]; done), by (simp (maxDischargeDepth := 8) [go_sem, *]; done), by (simp (maxDischargeDepth := 8) [go_sem, *]; done), by intro x; (simp (maxDischargeDepth := 8) [go_sem, *]; done), by intro x; (simp (maxDischargeDepth := 8) [go_sem, *]; done), by intro x; (simp (maxDischargeDepth := 8) [go_sem, *]; done)⟩
       case measure => simp [intOf]; omega
      ·go_wp2_with fail
       refine (rAdd_over ah al a ah al a ha ha (by omega) _).mono ?_
       rintro e w2 ⟨th, tl, rfl, ht, hb⟩
       obtain ⟨hB2, hs2, hc2, hf2, hz2⟩ := after (w0 := w) hb (by go_grown); have z20 : w.heap.size < w2.heap.size := hz2 _ (by go_size); have z21 : w.heap.size + 1 < w2.heap.size := hz2 _ (by go_size); have z22 : w.heap.size + 1 + 1 < w2.heap.size := hz2 _ (by go_size); clear hb hz2
       obtain ⟨rfl, rfl⟩ := ht.ext IsU.zero
       go_wp2
       refine bodyPost_ret (v := .tuple #[.agg #[.int .u64 0, .int .u64 0], .bool false]) (by simp (maxDischargeDepth := 8) [results, Tryz.results105, go_sem, *]) rfl ?_
       exact Or.inr ⟨by have := HL2.out; omega, 0, 0, rfl, IsU.zero, by go_grown⟩
     ·have E : k / 2 = 0 := by omega
      have H0 : Hid (o + a + a * (k / 2) = A * K) := by
       have := HO.out
       rw [E, Int.mul_zero] at this ⊢
       exact this
      clear E
      go_wp2
      go_roundw
      case rel => exact ⟨k / 2, ah, al, a, sh, sl, (o + a), rfl, rfl, ⟨by omega, by omega⟩, ha, hs, H0, by go_grown, by go_size, by go_size, by go_size, by (simp (maxDischargeDepth := 8) [go_sem, *]; done), by (simp (maxDischargeDepth := 8) [go_sem, *]; done), by (simp (maxDischargeDepth := 8) [go_sem, *]; done), by (simp (maxDischargeDepth := 8) [go_sem, *]; done), by (simp (maxDischargeDepth := 8) [go_sem, *]; done), by (simp (maxDischargeDepth := 8) [go_sem, *]; done), by intro x; (simp (maxDischargeDepth := 8) [go_sem, *]; done), by intro x; (simp (maxDischargeDepth := 8) [go_sem, *]; done), by intro x; (simp (maxDischargeDepth := 8) [go_sem, *]; done)⟩
      case measure => simp [intOf]; omega
    ·go_wp2_with fail
     refine (rAdd_over oh ol o ah al a ho ha (by omega) _).mono ?_
     rintro e w1 ⟨sh, sl, rfl, hs, hb⟩
     obtain ⟨hB1, hs1, hc1, hf1, hz1⟩ := after (w0 := w) hb (by go_grown); have z10 : w.heap.size < w1.heap.size := hz1 _ (by go_size); have z11 : w.heap.size + 1 < w1.heap.size := hz1 _ (by go_size); have z12 : w.heap.size + 1 + 1 < w1.heap.size := hz1 _ (by go_size); clear hb hz1
     obtain ⟨rfl, rfl⟩ := hs.ext IsU.zero
     go_wp2
     refine bodyPost_ret (v := .tuple #[.agg #[.int .u64 0, .int .u64 0], .bool false]) (by simp (maxDischargeDepth := 8) [results, Tryz.results105, go_sem, *]) rfl ?_
     exact Or.inr ⟨by have := HL.out; omega, 0, 0, rfl, IsU.zero, by go_grown⟩
   ·have he : k % 2 = 0 := by omega
    have hb1 := and_one_f k0 k1 he
    have HO := Lib.hid (ms_even HI.out he)
    have hk3 : 0 < k / 2 := by omega
    clear hz hodd he
    have HL2 := Lib.hid (ms_le2 HO.out ho.nn ha.nn (by omega))
    by_cases hfit2 : a + a < 340282366920938463463374607431768211456
    ·go_wp2_with fail
     refine (rAdd_fit ah al a ah al a ha ha hfit2 _).mono ?_
     rintro e w1 ⟨th, tl, rfl, ht, hb⟩
     obtain ⟨hB1, hs1, hc1, hf1, hz1⟩ := after (w0 := w) hb (by go_grown); have z10 : w.heap.size < w1.heap.size := hz1 _ (by go_size); have z11 : w.heap.size + 1 < w1.heap.size := hz1 _ (by go_size); have z12 : w.heap.size + 1 + 1 < w1.heap.size := hz1 _ (by go_size); clear hb hz1
     have e2 : a * 2 = a + a := by omega
     have ht2 : IsU th tl (a * 2) := by rw [e2]; exact ht
     clear e2
     clear hfit2 HL2
     go_wp2
     go_roundw
     case rel => exact ⟨k / 2, th, tl, a * 2, oh, ol, o, rfl, rfl, ⟨by omega, by omega⟩, ht2, ho, HO, by go_grown, by go_size, by go_size, by go_size, by (simp (maxDischargeDepth := 8) [go_sem, *]; done), by (simp (maxDischargeDepth := 8) [go_sem, *]; done), by (simp (maxDischargeDepth := 8) [go_sem, *]; done), by (simp (maxDischargeDepth := 8) [go_sem, *]; done), by (simp (maxDischargeDepth := 8) [go_sem, *]; done), by (simp (maxDischargeDepth := 8) [go_sem, *]; done), by intro x; (simp (maxDischargeDepth := 8) [go_sem, *]; done), by intro x; (simp (maxDischargeDepth := 8) [go_sem, *]; done), by intro x; (simp (maxDischargeDepth := 8) [go_sem, *]; done)⟩
     case measure => simp [intOf]; omega
    ·go_wp2_with fail
     refine (rAdd_over ah al a ah al a ha ha (by omega) _).mono ?_
     rintro e w1 ⟨th, tl, rfl, ht, hb⟩
     obtain ⟨hB1, hs1, hc1, hf1, hz1⟩ := after (w0 := w) hb (by go_grown); have z10 : w.heap.size < w1.heap.size := hz1 _ (by go_size); have z11 : w.heap.size + 1 < w1.heap.size := hz1 _ (by go_size); have z12 : w.heap.size + 1 + 1 < w1.heap.size := hz1 _ (by go_size); clear hb hz1
     obtain ⟨rfl, rfl⟩ := ht.ext IsU.zero
     go_wp2
     refine bodyPost_ret (v := .tuple #[.agg #[.int .u64 0, .int .u64 0], .bool false]) (by simp (maxDischargeDepth := 8) [results, Tryz.results105, go_sem, *]) rfl ?_
     exact Or.inr ⟨by have := HL2.out; omega, 0, 0, rfl, IsU.zero, by go_grown⟩
end Go.Proofs.YtdioaiepkhepaaaGreatDoor
