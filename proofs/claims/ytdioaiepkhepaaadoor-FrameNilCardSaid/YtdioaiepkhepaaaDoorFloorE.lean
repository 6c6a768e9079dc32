/- Walk: the reference's floor, bit by bit. -/
import Derived.Test.YtdioaiepkhepaaaDoorMath03
import Derived.Test.YtdioaiepkhepaaaDoorNumMath
namespace Go.Proofs.YtdioaiepkhepaaaDoor
set_option maxRecDepth 100000
open Go.RowKit

theorem sumCalls {P : Program} {I : World → Prop} {f : FuncId} {F : List Value → List Value} {A : List PS} {R : RS} (h : SumOK P I ⟨f, F, A, R⟩) (hc : ∀ args w, (callFunc f args).run P w = .ok (.enter f args) w) {vs : List Value} {args : Array Value} (e1 : (packL A vs).toArray = args) {κs : List SK} (e2 : kindsL A = κs) (hk : KindsL κs vs) {w : World} (hw : I w) (hA : (kindsL A).all isPl = true := by rfl) (hR : R.kinds.all isPl = true := by rfl) :
    Calls P f args w fun e w' => e = .returned (R.pack (F vs)) ∧ KindsL R.kinds (F vs) ∧ Below w.heap.size w w' := by
  subst e1 e2
  rcases h.plain hA hR vs hk w hw with ⟨-, h2⟩ | ⟨v, h1, -⟩
  · exact h2.mono fun e w' ⟨v, he, hv, hk, hb⟩ => ⟨by rw [he, hv], hk, hb⟩
  · rw [hc] at h1; cases h1

structure XW (ph pl q r d : Int) : Prop where
  ph : IsW ph
  pl : IsW pl
  q : IsW q
  r : IsW r
  d : IsW d
theorem XW.kinds {ph pl q r d : Int} (h : XW ph pl q r d) {κs : List SK} {vs : List Value} (k : KindsL κs vs) : KindsL (.i .u64 :: .i .u64 :: .i .u64 :: .i .u64 :: .i .u64 :: κs) (.int .u64 ph :: .int .u64 pl :: .int .u64 q :: .int .u64 r :: .int .u64 d :: vs) :=
  ⟨_, _, rfl, kW h.ph, _, _, rfl, kW h.pl, _, _, rfl, kW h.q, _, _, rfl, kW h.r, _, _, rfl, kW h.d, k⟩


/-- n is the greatest so far, k bits are left. -/
def FlInv (M n : Int) (k : Nat) : Prop := k ≤ 63 ∧ 0 ≤ n ∧ n ≤ M ∧ M < n + 2 ^ k ∧ n % 2 ^ k = 0 ∧ M < 9223372036854775808
theorem fl_round {M n : Int} {i : Nat} (h : FlInv M n (i + 1)) : bits .or .u64 n (2 ^ i) = n + 2 ^ i ∧ IsW (n + 2 ^ i) ∧ (1 : Int) ≤ 2 ^ i ∧ (2 : Int) ^ i < 18446744073709551616 ∧ (n + 2 ^ i ≤ M → FlInv M (n + 2 ^ i) i) ∧ (¬ n + 2 ^ i ≤ M → FlInv M n i) := by
  obtain ⟨hk, h0, h1, h2, h3, h4⟩ := h
  have e : (2 : Int) ^ (i + 1) = 2 * 2 ^ i := by rw [Int.pow_succ, Int.mul_comm]
  have hp : (1 : Int) ≤ 2 ^ i := Int.pow_pos (by decide)
  have hp2 : (2 : Int) ^ i ≤ 9223372036854775808 := by
    have e : ((2 : Int) ^ i) = ((2 ^ i : Nat) : Int) := by simp
    have : (2:Nat) ^ i ≤ 2 ^ 63 := Nat.pow_le_pow_right (by decide) (by omega)
    rw [e]; omega
  rw [e] at h2 h3
  have hb := or_bit n i h0 (by omega) (by omega) h3
  have hm : n % 2 ^ i = 0 := by
    have d := Int.emod_add_mul_ediv n (2 * 2 ^ i)
    rw [h3] at d
    rw [← d, Int.zero_add, Int.mul_comm 2, Int.mul_assoc]
    exact Int.mul_emod_right _ _
  refine ⟨hb, ⟨by omega, by omega⟩, hp, by omega, fun hle => ⟨by omega, by omega, hle, by omega, ?_, h4⟩, fun hlt => ⟨by omega, h0, h1, by omega, hm, h4⟩⟩
  rw [Int.add_emod, hm, Int.emod_self]
  rfl

noncomputable def F_ref01_FloorExact (ph pl q r d : Int) : Int × Bool := if VE ph q r d then flE (U ph pl) (q * q * r) d else (0, false)


def A_ref01_FloorExact : List PS := [.agg [.i .u64, .i .u64, .i .u64, .i .u64, .i .u64]]
def R_ref01_FloorExact : RS := .tup [.c (.i .u64), .c (.b)]
noncomputable def L_ref01_FloorExact : List Value → List Value
  | [.int _ ph, .int _ pl, .int _ q, .int _ r, .int _ d] => [.int .u64 (F_ref01_FloorExact ph pl q r d).1, .bool (F_ref01_FloorExact ph pl q r d).2]
  | _ => []
theorem floor_W {ph pl q r d : Int} (h : XW ph pl q r d) : IsW (F_ref01_FloorExact ph pl q r d).1 := by
  unfold F_ref01_FloorExact
  by_cases hv : VE ph q r d
  · rw [if_pos hv]
    have := flE_bd (P := U ph pl) (S := q * q * r) (d := d) (isU h.ph h.pl).nn (hv.isQ h.q h.r).bd.2.2.1 hv.2.2.2
    exact ⟨this.1, by omega⟩
  · rw [if_neg hv]
    exact zero_W
end Go.Proofs.YtdioaiepkhepaaaDoor
