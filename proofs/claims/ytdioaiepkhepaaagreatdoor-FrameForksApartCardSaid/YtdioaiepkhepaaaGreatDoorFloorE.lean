/- Walk: the reference's floor, bit by bit. -/
import Derived.Test.YtdioaiepkhepaaaGreatDoorMath03
import Derived.Test.YtdioaiepkhepaaaGreatDoorNumMath
namespace Go.Proofs.YtdioaiepkhepaaaGreatDoor
set_option maxRecDepth 100000
open Go.RowKit
theorem sumCalls {P : Program} {I : World → Prop} {f : FuncId} {F : List Value → List Value} {A : List PS} {R : RS} (h : SumOK P I ⟨f, F, A, R⟩) (hc : ∀ args w, (callFunc f args).run P w = .ok (.enter f args) w) {vs : List Value} {args : Array Value} (e1 : (packL A vs).toArray = args) {κs : List SK} (e2 : kindsL A = κs) (hk : KindsL κs vs) {w : World} (hw : I w) (hA : (kindsL A).all isPl = true := by rfl) (hR : R.kinds.all isPl = true := by rfl) :
 Calls P f args w fun e w' => e = .returned (R.pack (F vs)) ∧ KindsL R.kinds (F vs) ∧ Below w.heap.size w w' := by
 subst e1 e2
 rcases h.plain hA hR vs hk w hw with ⟨-, h2⟩ | ⟨v, h1, -⟩
 ·exact h2.mono fun e w' ⟨v, he, hv, hk, hb⟩ => ⟨by rw [he, hv], hk, hb⟩
 ·rw [hc] at h1; cases h1
structure XW (ph pl q r d : Int) : Prop where
 ph : IsW ph
 pl : IsW pl
 q : IsW q
 r : IsW r
 d : IsW d
theorem XW.kinds {ph pl q r d : Int} (h : XW ph pl q r d) {κs : List SK} {vs : List Value} (k : KindsL κs vs) : KindsL (.i .u64 :: .i .u64 :: .i .u64 :: .i .u64 :: .i .u64 :: κs) (.int .u64 ph :: .int .u64 pl :: .int .u64 q :: .int .u64 r :: .int .u64 d :: vs) :=
 ⟨_, _, rfl, kW h.ph, _, _, rfl, kW h.pl, _, _, rfl, kW h.q, _, _, rfl, kW h.r, _, _, rfl, kW h.d, k⟩
theorem cTimes {ph pl q r d n : Int} (h : XW ph pl q r d) (hn : IsW n) (hv : VE ph q r d) (w : World) :
 Calls Tryz.prog 104 #[.agg #[.int .u64 ph, .int .u64 pl, .int .u64 q, .int .u64 r, .int .u64 d], .bool false, .int .u64 n] w (RetV (.int .i64 (cmpE (U ph pl) (q * q * r) d n)) w) := by
 refine (sumCalls (F := L_r1_times) (A := A_r1_times) (R := R_r1_times) ok_r1_times (vs := [.int .u64 ph, .int .u64 pl, .int .u64 q, .int .u64 r, .int .u64 d, .bool false, .int .u64 n]) Tryz.call104 rfl rfl (h.kinds ⟨_, _, rfl, ⟨_, rfl⟩, _, _, rfl, kW hn, rfl⟩) (w := w) trivial).mono ?_
 rintro e w' ⟨rfl, hk, hb⟩
 refine ⟨?_, hb⟩
 have := rTimes1 h.ph h.pl h.d hn (hv.isQ h.q h.r)
 unfold F_r1_times at this
 change KindsL [.i .i64] (L_r1_times _) at hk
 change Ending.returned (R_r1_times.pack (L_r1_times _)) = _
 generalize L_r1_times [.int .u64 ph, .int .u64 pl, .int .u64 q, .int .u64 r, .int .u64 d, .bool false, .int .u64 n] = l at *
 obtain ⟨_, _, rfl, ⟨y, rfl, -⟩, rfl⟩ := hk
 rw [← this]
 rfl
theorem cValid {ph pl q r d : Int} (h : XW ph pl q r d) (w : World) :
 Calls Tryz.prog 119 #[.agg #[.int .u64 ph, .int .u64 pl, .int .u64 q, .int .u64 r, .int .u64 d]] w (RetV (.bool (decide (VE ph q r d))) w) := by
 refine (sumCalls (F := L_r1_ValidExact) (A := A_r1_ValidExact) (R := R_r1_ValidExact) ok_r1_ValidExact (vs := [.int .u64 ph, .int .u64 pl, .int .u64 q, .int .u64 r, .int .u64 d]) Tryz.call119 rfl rfl (h.kinds (κs := []) (vs := []) rfl) (w := w) trivial).mono ?_
 rintro e w' ⟨rfl, hk, hb⟩
 refine ⟨?_, hb⟩
 have := rValid ph pl q r d
 unfold F_r1_ValidExact at this
 change KindsL [.b] (L_r1_ValidExact _) at hk
 change Ending.returned (R_r1_ValidExact.pack (L_r1_ValidExact _)) = _
 generalize L_r1_ValidExact [.int .u64 ph, .int .u64 pl, .int .u64 q, .int .u64 r, .int .u64 d] = l at *
 obtain ⟨_, _, rfl, ⟨y, rfl⟩, rfl⟩ := hk
 rw [← this]
 rfl
def FlInv (M n : Int) (k : Nat) : Prop := k ≤ 63 ∧ 0 ≤ n ∧ n ≤ M ∧ M < n + 2 ^ k ∧ n % 2 ^ k = 0 ∧ M < 9223372036854775808
theorem fl_round {M n : Int} {i : Nat} (h : FlInv M n (i + 1)) : bits .or .u64 n (2 ^ i) = n + 2 ^ i ∧ IsW (n + 2 ^ i) ∧ (1 : Int) ≤ 2 ^ i ∧ (2 : Int) ^ i < 18446744073709551616 ∧ (n + 2 ^ i ≤ M → FlInv M (n + 2 ^ i) i) ∧ (¬ n + 2 ^ i ≤ M → FlInv M n i) := by
 obtain ⟨hk, h0, h1, h2, h3, h4⟩ := h
 have e : (2 : Int) ^ (i + 1) = 2 * 2 ^ i := by rw [Int.pow_succ, Int.mul_comm]
 have hp : (1 : Int) ≤ 2 ^ i := Int.pow_pos (by decide)
 have hp2 : (2 : Int) ^ i ≤ 9223372036854775808 := by
  have e : ((2 : Int) ^ i) = ((2 ^ i : Nat) : Int) := by simp
  have : (2:Nat) ^ i ≤ 2 ^ 63 := Nat.pow_le_pow_right (by decide) (by omega)
  rw [e]; omega
 rw [e] at h2 h3
 have hb := or_bit n i h0 (by omega) (by omega) h3
 have hm : n % 2 ^ i = 0 := by
  have d := Int.emod_add_mul_ediv n (2 * 2 ^ i)
  rw [h3] at d
  rw [← d, Int.zero_add, Int.mul_comm 2, Int.mul_assoc]
  exact Int.mul_emod_right _ _
 refine ⟨hb, ⟨by omega, by omega⟩, hp, by omega, fun hle => ⟨by omega, by omega, hle, by omega, ?_, h4⟩, fun hlt => ⟨by omega, h0, h1, by omega, hm, h4⟩⟩
 rw [Int.add_emod, hm, Int.emod_self]
 rfl
noncomputable def F_r1_FloorExact (ph pl q r d : Int) : Int × Bool := if VE ph q r d then flE (U ph pl) (q * q * r) d else (0, false)
set_option maxHeartbeats 4000000 in
theorem rFloor {ph pl q r d : Int} (h : XW ph pl q r d) (w : World) :
 Calls Tryz.prog 103 #[.agg #[.int .u64 ph, .int .u64 pl, .int .u64 q, .int .u64 r, .int .u64 d]] w (RetV (.tuple #[.int .u64 (F_r1_FloorExact ph pl q r d).1, .bool (F_r1_FloorExact ph pl q r d).2]) w) := by
 unfold F_r1_FloorExact
 by_cases hv : VE ph q r d
 case neg =>
  rw [if_neg hv]
  go_enter Tryz.func103, Tryz.ntmps103
  go_wp2_with fail
  refine (cValid h _).mono ?_
  rintro e w1 ⟨rfl, hb⟩
  simp only [hv, decide_false]
  obtain ⟨hB1, hs1, hc1, hf1, hz1⟩ := after (w0 := w) hb (by go_grown); have z10 : w.heap.size < w1.heap.size := hz1 _ (by go_size); clear hb hz1
  go_wp2
  go_returns
  exact ⟨rfl, by go_grown⟩
 rw [if_pos hv]
 have hS := (hv.isQ h.q h.r).bd.2.2.1
 have hd := hv.2.2.2
 have hle (n : Int) := cmpE_le (P := U ph pl) (n := n) hS hd
 have hM : 0 ≤ (U ph pl + isq (q * q * r)) / d := Int.ediv_nonneg (by have := (isq_spec hS).1; have := (isU h.ph h.pl).nn; omega) (by omega)
 by_cases hbig : 9223372036854775808 ≤ (U ph pl + isq (q * q * r)) / d
 ·have hc := (hle _).2 hbig
  rw [flE, if_neg (by omega)]
  go_enter Tryz.func103, Tryz.ntmps103
  go_wp2_with fail
  refine (cValid h _).mono ?_
  rintro e w1 ⟨rfl, hb⟩
  simp only [hv, decide_true]
  obtain ⟨hB1, hs1, hc1, hf1, hz1⟩ := after (w0 := w) hb (by go_grown); have z10 : w.heap.size < w1.heap.size := hz1 _ (by go_size); clear hb hz1
  go_wp2_with fail
  refine (cTimes h ⟨by decide, by decide⟩ hv _).mono ?_
  rintro e w2 ⟨rfl, hb⟩
  obtain ⟨hB2, hs2, hc2, hf2, hz2⟩ := after (w0 := w) hb (by go_grown); have z20 : w.heap.size < w2.heap.size := hz2 _ (by go_size); clear hb hz2
  go_wp2
  go_returns
  exact ⟨rfl, by go_grown⟩
 ·have hc : ¬ 0 ≤ cmpE (U ph pl) (q * q * r) d 9223372036854775808 := fun hx => hbig ((hle _).1 hx)
  rw [flE, if_pos (by omega)]
  generalize (U ph pl + isq (q * q * r)) / d = M at *
  have hM2 : M < 9223372036854775808 := by omega
  clear hbig
  go_enter Tryz.func103, Tryz.ntmps103
  go_wp2_with fail
  refine (cValid h _).mono ?_
  rintro e w1 ⟨rfl, hb⟩
  simp only [hv, decide_true]
  obtain ⟨hB1, hs1, hc1, hf1, hz1⟩ := after (w0 := w) hb (by go_grown); have z10 : w.heap.size < w1.heap.size := hz1 _ (by go_size); clear hb hz1
  go_wp2_with fail
  refine (cTimes h ⟨by decide, by decide⟩ hv _).mono ?_
  rintro e w2 ⟨rfl, hb⟩
  obtain ⟨hB2, hs2, hc2, hf2, hz2⟩ := after (w0 := w) hb (by go_grown); have z20 : w.heap.size < w2.heap.size := hz2 _ (by go_size); clear hb hz2
  go_wp2_with fail
  have z1 : w.heap.size < w2.heap.size := z20
  have cc : w2.cell? ⟨w.heap.size, 0, none⟩ = some (.int .u64 ph) ∧ w2.cell? ⟨w.heap.size, 1, none⟩ = some (.int .u64 pl) ∧ w2.cell? ⟨w.heap.size, 2, none⟩ = some (.int .u64 q) ∧ w2.cell? ⟨w.heap.size, 3, none⟩ = some (.int .u64 r) ∧ w2.cell? ⟨w.heap.size, 4, none⟩ = some (.int .u64 d) := ⟨by go_cell, by go_cell, by go_cell, by go_cell, by go_cell⟩
  have hBel : Below w.heap.size w w2 := by go_grown
  clear hc2 hf2 hc1 hf1
  go_loopw [4, 5] (fun a b wr => ∃ (n : Int) (k : Nat), a = .int .u64 n ∧ b = .int .i64 ((k : Int) - 1) ∧ FlInv M n k ∧ Below w.heap.size w wr ∧ w.heap.size < wr.heap.size ∧ wr.cell? ⟨w.heap.size, 0, none⟩ = some (.int .u64 ph) ∧ wr.cell? ⟨w.heap.size, 1, none⟩ = some (.int .u64 pl) ∧ wr.cell? ⟨w.heap.size, 2, none⟩ = some (.int .u64 q) ∧ wr.cell? ⟨w.heap.size, 3, none⟩ = some (.int .u64 r) ∧ wr.cell? ⟨w.heap.size, 4, none⟩ = some (.int .u64 d)) (fun _ b _ => (intOf b + 1).toNat)
  case atStart => exact ⟨0, 63, rfl, rfl, ⟨by decide, by decide, hM, by omega, by decide, hM2⟩, hBel, z1, cc⟩
  case round =>
   obtain ⟨n, k, rfl, rfl, hI, hB, hs, c0, c1, c2, c3, c4⟩ := hrel
   rcases k with _ | i
   ·have hn : n = M := by have := hI.2.2.1; have := hI.2.2.2.1; omega
    subst hn
    go_wp2
    go_returns
    exact ⟨rfl, hB⟩
   ·obtain ⟨hor, hn, b0, b1, h1, h2⟩ := fl_round hI
    have hi63 : i ≤ 62 := by have := hI.1; omega
    have hsh : IntKind.u64.wrap (2 ^ min (IntKind.u64.wrap (i : Int)).toNat 64) = 2 ^ i := by
     rw [u64_in (x := (i : Int)) (by omega) (by omega), Int.toNat_natCast, Nat.min_eq_left (by omega), u64_in (by omega) (by omega)]
    go_wp2_with fail
    refine (cTimes h hn hv _).mono ?_
    rintro e w3 ⟨rfl, hb⟩
    obtain ⟨hB3, hs3, hc3, hf3, hz3⟩ := after (w0 := w) hb (by go_grown); have z30 : w.heap.size < w3.heap.size := hz3 _ (by go_size); clear hb hz3
    have d0 := (hc3 w.heap.size 0 (by go_size)).trans c0
    have d1 := (hc3 w.heap.size 1 (by go_size)).trans c1
    have d2 := (hc3 w.heap.size 2 (by go_size)).trans c2
    have d3 := (hc3 w.heap.size 3 (by go_size)).trans c3
    have d4 := (hc3 w.heap.size 4 (by go_size)).trans c4
    clear hc3 hf3
    have hle' := hle (n + 2 ^ i)
    by_cases hx : n + 2 ^ i ≤ M
    ·have hcm := hle'.2 hx
     have HL := Lib.hid (h1 hx)
     clear hle' hle hx h1 h2
     go_wp2
     go_roundw
     case rel => exact ⟨_, i, rfl, rfl, HL.out, hB3, z30, d0, d1, d2, d3, d4⟩
     case measure => simp [intOf]
    ·have hcm : cmpE (U ph pl) (q * q * r) d (n + 2 ^ i) < 0 := Int.not_le.1 fun hy => hx (hle'.1 hy)
     have HL := Lib.hid (h2 (by omega))
     clear hle' hle hx h1 h2
     have hcd : decide (0 ≤ cmpE (U ph pl) (q * q * r) d (n + 2 ^ i)) = false := decide_eq_false (by omega)
     clear hcm hc hor hsh b0 b1 hn hs hB hd hS hM hM2 hI
     generalize (n + 2 ^ i) = n' at *
     go_wp2_with fail
     go_roundw
     case rel => exact ⟨_, i, rfl, rfl, HL.out, hB3, z30, d0, d1, d2, d3, d4⟩
     case measure => simp [intOf]
def A_r1_FloorExact : List PS := [.agg [.i .u64, .i .u64, .i .u64, .i .u64, .i .u64]]
def R_r1_FloorExact : RS := .tup [.c (.i .u64), .c (.b)]
noncomputable def L_r1_FloorExact : List Value → List Value
 | [.int _ ph, .int _ pl, .int _ q, .int _ r, .int _ d] => [.int .u64 (F_r1_FloorExact ph pl q r d).1, .bool (F_r1_FloorExact ph pl q r d).2]
 | _ => []
noncomputable def S_r1_FloorExact : Sum := ⟨103, L_r1_FloorExact, A_r1_FloorExact, R_r1_FloorExact⟩
theorem floor_W {ph pl q r d : Int} (h : XW ph pl q r d) : IsW (F_r1_FloorExact ph pl q r d).1 := by
 unfold F_r1_FloorExact
 by_cases hv : VE ph q r d
 ·rw [if_pos hv]
  have := flE_bd (P := U ph pl) (S := q * q * r) (d := d) (isU h.ph h.pl).nn (hv.isQ h.q h.r).bd.2.2.1 hv.2.2.2
  exact ⟨this.1, by omega⟩
 ·rw [if_neg hv]
  exact zero_W
theorem ok_r1_FloorExact : SumOK Tryz.prog Inv S_r1_FloorExact := sum_of Tryz.call103 fun vs hk w => by
 obtain ⟨_, _, rfl, ⟨ph, rfl, a0, a1⟩, _, _, rfl, ⟨pl, rfl, b0, b1⟩, _, _, rfl, ⟨q, rfl, c0, c1⟩, _, _, rfl, ⟨r, rfl, d0, d1⟩, _, _, rfl, ⟨d, rfl, e0, e1⟩, rfl⟩ := hk
 have h : XW ph pl q r d := ⟨isW a0 a1, isW b0 b1, isW c0 c1, isW d0 d1, isW e0 e1⟩
 refine (rFloor h w).mono ?_
 rintro e w' ⟨rfl, hb⟩
 exact ⟨rfl, ⟨_, _, rfl, kW (floor_W h), _, _, rfl, ⟨_, rfl⟩, rfl⟩, hb⟩
end Go.Proofs.YtdioaiepkhepaaaGreatDoor
