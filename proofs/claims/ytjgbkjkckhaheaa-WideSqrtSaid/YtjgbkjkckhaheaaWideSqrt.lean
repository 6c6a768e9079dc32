/- compositorlaw02.WideSqrt returns true for every input: the root's square is at most the number, that of the next integer is greater. No condition. -/
import Derived.Test.YtjgbkjkckhaheaaLaw02c
import Derived.Test.YtjgbkjkckhaheaaRegion
namespace Go.Proofs.Ytjgbkjkckhaheaa
open Go.RowKit

theorem sq_uniq {x n : Int} (hn : 0 ≤ n) (hx : 0 ≤ x) (h1 : x * x ≤ n * n) (h2 : n * n < (x + 1) * (x + 1)) : x = n := by
  rcases Int.lt_trichotomy x n with h | h | h
  · have : (x + 1) * (x + 1) ≤ n * n := Int.mul_le_mul (by omega) (by omega) (by omega) hn
    omega
  · exact h
  · have : (n + 1) * (n + 1) ≤ x * x := Int.mul_le_mul (by omega) (by omega) (by omega) hx
    have e : (n + 1) * (n + 1) = n * n + n + n + 1 := by rw [Int.add_mul, Int.mul_add]; omega
    omega
theorem cmpI_pos {x y : Int} (h : y < x) : 0 < cmpI x y := by rw [cmpI_gt h]; decide

set_option maxHeartbeats 4000000 in
theorem lSqrt (ah al n k : Int) (h0 : IsW ah) (h1 : IsW al) (hn : IsW n) (k0 : -9223372036854775808 ≤ k) (k1 : k ≤ 9223372036854775807) (w : World) :
    Calls Try.prog 3 #[.agg #[.int .u64 ah, .int .u64 al], .int .u64 n, .int .i64 k] w (RetV (.bool true) w) := by
  go_enter Try.func3, Try.ntmps3
  go_wp2_with fail
  refine (lNear ah al _ k ⟨h0.1, h0.2, h1.1, h1.2, rfl⟩ k0 k1 _).mono ?_
  rintro e w1 ⟨bh, bl, X, rfl, hX, hb⟩
  obtain ⟨hB1, hs1, hc1, hf1, hz1⟩ := after (w0 := w) hb (by go_grown); have z10 : w.heap.size < w1.heap.size := hz1 _ (by go_size); clear hb hz1
  go_wp2_with fail
  refine (wSqrt bh bl X hX _).mono ?_
  rintro e w2 ⟨s, rfl, hs, q1, q2, hb⟩
  obtain ⟨hB2, hs2, hc2, hf2, hz2⟩ := after (w0 := w) hb (by go_grown); have z20 : w.heap.size < w2.heap.size := hz2 _ (by go_size); clear hb hz2
  have c0 : w2.cell? ⟨w.heap.size, 0, none⟩ = some (.int .u64 bh) := by simp (maxDischargeDepth := 8) [go_sem, *]
  have c1 : w2.cell? ⟨w.heap.size, 1, none⟩ = some (.int .u64 bl) := by simp (maxDischargeDepth := 8) [go_sem, *]
  clear hc1 hf1 hc2 hf2
  have g1 : decide (0 < cmpI (s * s) X) = false := by have := cmpI_le.2 q1; rw [decide_eq_false_iff_not]; omega
  have g2 : decide (cmpI ((s + 1) * (s + 1)) X ≤ 0) = false := by have := cmpI_pos q2; rw [decide_eq_false_iff_not]; omega
  have s0 := hs.1
  have s1 := hs.2
  clear q1 q2
  by_cases ht : s < 18446744073709551615
  · have ht' : decide (s < 18446744073709551615) = true := by rw [decide_eq_true_iff]; exact ht
    have hs' : IsW (s + 1) := ⟨by omega, by omega⟩
    go_wp2_with fail
    have hw : IntKind.u64.wrap (s + 1) = s + 1 := IntWalk.u64_in _ (by omega)
    go_region_held3 (fun w' => w'.cell? ⟨w.heap.size, 0, none⟩ = some (.int .u64 bh) ∧ w'.cell? ⟨w.heap.size, 1, none⟩ = some (.int .u64 bl)) (exact ⟨c0, c1⟩)
      (first
        | (go_at_call 17; refine (lAwake02 _).mono ?_; rintro e w3 ⟨rfl, hb⟩; obtain ⟨hB3, hs3, hc3, hf3, hz3⟩ := after (w0 := w) hb (by go_grown); have z30 : w.heap.size < w3.heap.size := hz3 _ (by go_size); replace c0 := (hc3 (w.heap.size) 0 (by go_size)).trans c0; replace c1 := (hc3 (w.heap.size) 1 (by go_size)).trans c1; clear hc3 hf3; clear hb hz3)
        | (go_at_call 19; refine (rMul _ _ (by assumption) (by assumption) _).mono ?_; rintro e w4 ⟨mh, ml, rfl, hm, hb⟩; obtain ⟨hB4, hs4, hc4, hf4, hz4⟩ := after (w0 := w) hb (by go_grown); have z40 : w.heap.size < w4.heap.size := hz4 _ (by go_size); replace c0 := (hc4 (w.heap.size) 0 (by go_size)).trans c0; replace c1 := (hc4 (w.heap.size) 1 (by go_size)).trans c1; clear hc4 hf4; clear hb hz4)
        | (go_at_call 18; refine (rCompare mh ml _ bh bl X hm hX _).mono ?_; rintro e w5 ⟨rfl, hb⟩; obtain ⟨hB5, hs5, hc5, hf5, hz5⟩ := after (w0 := w) hb (by go_grown); have z50 : w.heap.size < w5.heap.size := hz5 _ (by go_size); replace c0 := (hc5 (w.heap.size) 0 (by go_size)).trans c0; replace c1 := (hc5 (w.heap.size) 1 (by go_size)).trans c1; clear hc5 hf5; clear hb hz5))
    clear hw
    go_wp2_with fail
    refine (rMul n n hn hn _).mono ?_
    rintro e w6 ⟨nh, nl, rfl, hnm, hb⟩
    obtain ⟨hB6, hs6, hc6, hf6, hz6⟩ := after (w0 := w) hb (by go_grown); have z60 : w.heap.size < w6.heap.size := hz6 _ (by go_size); clear hb hz6
    go_wp2_with fail
    refine (wSqrt nh nl _ hnm _).mono ?_
    rintro e w7 ⟨x, rfl, hx, hx1, hx2, hb⟩
    obtain ⟨hB7, hs7, hc7, hf7, hz7⟩ := after (w0 := w) hb (by go_grown); have z70 : w.heap.size < w7.heap.size := hz7 _ (by go_size); clear hb hz7
    obtain rfl := sq_uniq hn.1 hx.1 hx1 hx2
    go_wp2
    go_ret
    exact ⟨rfl, by go_grown⟩
  · have ht' : decide (s < 18446744073709551615) = false := by rw [decide_eq_false_iff_not]; exact ht
    go_wp2_with fail
    refine wp_region_held_drew (S := (fun w' => w'.cell? ⟨w.heap.size, 0, none⟩ = some (.int .u64 bh) ∧ w'.cell? ⟨w.heap.size, 1, none⟩ = some (.int .u64 bl))) (by kernel_rfl) ⟨c0, c1⟩ (fun hHeld => ?_)
    refine wpAnyH_ready (rs := [0]) (by kernel_rfl) (by simp) ?_
    refine AllReadyH.cons rfl (fun K hK => ?_) AllReadyH.nil
    go_simp
    refine (lAwake02 _).mono ?_; rintro e w3 ⟨rfl, hb⟩; obtain ⟨hB3, hs3, hc3, hf3, hz3⟩ := after (w0 := w) hb (by go_grown); have z30 : w.heap.size < w3.heap.size := hz3 _ (by go_size); replace c0 := (hc3 (w.heap.size) 0 (by go_size)).trans c0; replace c1 := (hc3 (w.heap.size) 1 (by go_size)).trans c1; clear hc3 hf3; clear hb hz3
    refine hK.out _ _ ⟨c0, c1⟩ (fun hHeld => ?_)
    clear hK K
    (try simp only [Act.put]); (try simp only [List.setIfInBounds_toArray]); (try simp only [List.set_cons_succ]); (try simp only [List.set_cons_zero])
    refine wpAnyH_quiet 1 14 ?_ (by kernel_rfl) (by kernel_rfl) (fun _ _ _ _ _ h => h) (by assumption) ?_ ?_
    rotate_left
    · intro w hSw; (try dsimp only at hSw); go_simp; try (with_reducible rfl)
    (try simp only [List.setIfInBounds_toArray]); (try simp only [List.set_cons_succ]); (try simp only [List.set_cons_zero])
    refine wpAnyH_quiet 2 15 ?_ (by kernel_rfl) (by kernel_rfl) (fun _ _ _ _ _ h => h) (by assumption) ?_ ?_
    rotate_left
    · intro w hSw; (try dsimp only at hSw); go_simp; try (with_reducible rfl)
    (try simp only [List.setIfInBounds_toArray]); (try simp only [List.set_cons_succ]); (try simp only [List.set_cons_zero])
    refine wpAnyH_quiet 3 16 ?_ (by kernel_rfl) (by kernel_rfl) (fun _ _ _ _ _ h => h) (by assumption) ?_ ?_
    rotate_left
    · intro w hSw; (try dsimp only at hSw); go_simp; try (with_reducible rfl)
    (try simp only [List.setIfInBounds_toArray]); (try simp only [List.set_cons_succ]); (try simp only [List.set_cons_zero])
    refine wpAnyH_quiet 4 17 ?_ (by kernel_rfl) (by kernel_rfl) (fun _ _ _ _ _ h => h) (by assumption) ?_ ?_
    rotate_left
    · intro w hSw; (try dsimp only at hSw); go_simp; try (with_reducible rfl)
    (try simp only [List.setIfInBounds_toArray]); (try simp only [List.set_cons_succ]); (try simp only [List.set_cons_zero])
    refine wpAnyH_quiet 6 19 ?_ (by kernel_rfl) (by kernel_rfl) (fun _ _ _ _ _ h => h) (by assumption) ?_ ?_
    rotate_left
    · intro w hSw; (try dsimp only at hSw); go_simp; try (with_reducible rfl)
    (try simp only [List.setIfInBounds_toArray]); (try simp only [List.set_cons_succ]); (try simp only [List.set_cons_zero])
    refine wpAnyH_ready (rs := [5]) (by kernel_rfl) (by simp) ?_
    refine AllReadyH.cons rfl (fun K hK => ?_) AllReadyH.nil
    go_simp
    refine (rMul s s hs hs _).mono ?_; rintro e w4 ⟨mh, ml, rfl, hm, hb⟩; obtain ⟨hB4, hs4, hc4, hf4, hz4⟩ := after (w0 := w) hb (by go_grown); have z40 : w.heap.size < w4.heap.size := hz4 _ (by go_size); replace c0 := (hc4 (w.heap.size) 0 (by go_size)).trans c0; replace c1 := (hc4 (w.heap.size) 1 (by go_size)).trans c1; clear hc4 hf4; clear hb hz4
    refine hK.out _ _ ⟨c0, c1⟩ (fun hHeld => ?_)
    clear hK K
    (try simp only [Act.put]); (try simp only [List.setIfInBounds_toArray]); (try simp only [List.set_cons_succ]); (try simp only [List.set_cons_zero])
    refine wpAnyH_ready (rs := [7]) (by kernel_rfl) (by simp) ?_
    refine AllReadyH.cons rfl (fun K hK => ?_) AllReadyH.nil
    go_simp
    refine (rCompare mh ml _ bh bl X hm hX _).mono ?_; rintro e w5 ⟨rfl, hb⟩; obtain ⟨hB5, hs5, hc5, hf5, hz5⟩ := after (w0 := w) hb (by go_grown); have z50 : w.heap.size < w5.heap.size := hz5 _ (by go_size); replace c0 := (hc5 (w.heap.size) 0 (by go_size)).trans c0; replace c1 := (hc5 (w.heap.size) 1 (by go_size)).trans c1; clear hc5 hf5; clear hb hz5
    refine hK.out _ _ ⟨c0, c1⟩ (fun hHeld => ?_)
    clear hK K
    (try simp only [Act.put]); (try simp only [List.setIfInBounds_toArray]); (try simp only [List.set_cons_succ]); (try simp only [List.set_cons_zero])
    refine wpAnyH_quiet 8 21 ?_ (by kernel_rfl) (by kernel_rfl) (fun _ _ _ _ _ h => h) (by assumption) ?_ ?_
    rotate_left
    · intro w hSw; (try dsimp only at hSw); go_simp; try (with_reducible rfl)
    (try simp only [List.setIfInBounds_toArray]); (try simp only [List.set_cons_succ]); (try simp only [List.set_cons_zero])
    refine wpAnyH_quiet 9 22 ?_ (by kernel_rfl) (by kernel_rfl) (fun _ _ _ _ _ h => h) (by assumption) ?_ ?_
    rotate_left
    · intro w hSw; (try dsimp only at hSw); go_simp; try (with_reducible rfl)
    (try simp only [List.setIfInBounds_toArray]); (try simp only [List.set_cons_succ]); (try simp only [List.set_cons_zero])
    refine wpAnyH_quiet 10 23 ?_ (by kernel_rfl) (by kernel_rfl) (fun _ _ _ _ _ h => h) (by assumption) ?_ ?_
    rotate_left
    · intro w hSw; (try dsimp only at hSw); go_simp; try (with_reducible rfl)
    (try simp only [List.setIfInBounds_toArray]); (try simp only [List.set_cons_succ]); (try simp only [List.set_cons_zero])
    refine wpAnyH_quiet 11 24 ?_ (by kernel_rfl) (by kernel_rfl) (fun _ _ _ _ _ h => h) (by assumption) ?_ ?_
    rotate_left
    · intro w hSw; (try dsimp only at hSw); go_simp; try (with_reducible rfl)
    (try simp only [List.setIfInBounds_toArray]); (try simp only [List.set_cons_succ]); (try simp only [List.set_cons_zero])
    refine wpAnyH_quiet 12 25 ?_ (by kernel_rfl) (by kernel_rfl) (fun _ _ _ _ _ h => h) (by assumption) ?_ ?_
    rotate_left
    · intro w hSw; (try dsimp only at hSw); go_simp; try (with_reducible rfl)
    (try simp only [List.setIfInBounds_toArray]); (try simp only [List.set_cons_succ]); (try simp only [List.set_cons_zero])
    refine wpAnyH_quiet 13 26 ?_ (by kernel_rfl) (by kernel_rfl) (fun _ _ _ _ _ h => h) (by assumption) ?_ ?_
    rotate_left
    · intro w hSw; (try dsimp only at hSw); go_simp; try (with_reducible rfl)
    (try simp only [List.setIfInBounds_toArray]); (try simp only [List.set_cons_succ]); (try simp only [List.set_cons_zero])
    refine wpAnyH_skip 14 27 (by kernel_rfl) (by kernel_rfl) rfl (fun _ _ _ _ _ h => h) (by assumption) ?_
    refine wpAnyH_skip 15 28 (by kernel_rfl) (by kernel_rfl) rfl (fun _ _ _ _ _ h => h) (by assumption) ?_
    refine wpAnyH_skip 16 29 (by kernel_rfl) (by kernel_rfl) rfl (fun _ _ _ _ _ h => h) (by assumption) ?_
    refine wpAnyH_skip 17 30 (by kernel_rfl) (by kernel_rfl) rfl (fun _ _ _ _ _ h => h) (by assumption) ?_
    refine wpAnyH_skip 18 31 (by kernel_rfl) (by kernel_rfl) rfl (fun _ _ _ _ _ h => h) (by assumption) ?_
    refine wpAnyH_skip 19 32 (by kernel_rfl) (by kernel_rfl) rfl (fun _ _ _ _ _ h => h) (by assumption) ?_
    refine wpAnyH_skip 20 33 (by kernel_rfl) (by kernel_rfl) rfl (fun _ _ _ _ _ h => h) (by assumption) ?_
    refine wpAnyH_skip 21 34 (by kernel_rfl) (by kernel_rfl) rfl (fun _ _ _ _ _ h => h) (by assumption) ?_
    refine wpAnyH_quiet 22 35 ?_ (by kernel_rfl) (by kernel_rfl) (fun _ _ _ _ _ h => h) (by assumption) ?_ ?_
    rotate_left
    · intro w hSw; (try dsimp only at hSw); go_simp; try (with_reducible rfl)
    (try simp only [List.setIfInBounds_toArray]); (try simp only [List.set_cons_succ]); (try simp only [List.set_cons_zero])
    refine wpAnyH_quiet 23 36 ?_ (by kernel_rfl) (by kernel_rfl) (fun _ _ _ _ _ h => h) (by assumption) ?_ ?_
    rotate_left
    · intro w hSw; (try dsimp only at hSw); go_simp; try (with_reducible rfl)
    (try simp only [List.setIfInBounds_toArray]); (try simp only [List.set_cons_succ]); (try simp only [List.set_cons_zero])
    refine wpAnyH_done (by kernel_rfl) ?_ _
    go_wp2_with fail
    refine (rMul n n hn hn _).mono ?_
    rintro e w6 ⟨nh, nl, rfl, hnm, hb⟩
    obtain ⟨hB6, hs6, hc6, hf6, hz6⟩ := after (w0 := w) hb (by go_grown); have z60 : w.heap.size < w6.heap.size := hz6 _ (by go_size); clear hb hz6
    go_wp2_with fail
    refine (wSqrt nh nl _ hnm _).mono ?_
    rintro e w7 ⟨x, rfl, hx, hx1, hx2, hb⟩
    obtain ⟨hB7, hs7, hc7, hf7, hz7⟩ := after (w0 := w) hb (by go_grown); have z70 : w.heap.size < w7.heap.size := hz7 _ (by go_size); clear hb hz7
    obtain rfl := sq_uniq hn.1 hx.1 hx1 hx2
    go_wp2
    go_ret
    exact ⟨rfl, by go_grown⟩
end Go.Proofs.Ytjgbkjkckhaheaa
