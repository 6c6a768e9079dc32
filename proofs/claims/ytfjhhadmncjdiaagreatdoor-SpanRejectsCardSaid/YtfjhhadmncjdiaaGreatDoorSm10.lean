/- What the functions of chapter 10 compute. Printed by a program (gen/Gen.lean); what each function does is told by the evaluator, and the kernel checks it. No condition. -/
import Derived.Test.YtfjhhadmncjdiaaGreatDoorSm06
import Derived.Test.YtfjhhadmncjdiaaGreatDoorLaw03
import Derived.KernelRfl
namespace Go.Proofs.YtfjhhadmncjdiaaGreatDoor
open Go.RowKit

/-! compositor/compositorref01.Full -/
def A_ref01_Full : List PS := [.c (.i .u16)]
def R_ref01_Full : RS := .one (.c (.b))
noncomputable def L_ref01_Full : List Value → List Value := Classical.choose (veil fun vs => (evF Tryz.prog [] 1000 43 (inL A_ref01_Full vs)).outL)
theorem L_ref01_Full_is (vs : List Value) : L_ref01_Full vs = (evF Tryz.prog [] 1000 43 (inL A_ref01_Full vs)).outL := Classical.choose_spec (veil fun vs => (evF Tryz.prog [] 1000 43 (inL A_ref01_Full vs)).outL) vs
noncomputable def S_ref01_Full : Sum := ⟨43, L_ref01_Full, A_ref01_Full, R_ref01_Full⟩
theorem ok_ref01_Full : SumOK Tryz.prog Inv S_ref01_Full := sumOK_evV inv_stays allOK_nil 1000 43 A_ref01_Full R_ref01_Full L_ref01_Full_is (fun _ => by kernel_rfl)
noncomputable def F_ref01_Full (p0 : Int) : Bool := tru ((L_ref01_Full [.int .u16 p0]).getD 0 undef)
theorem F_ref01_Full_eq (p0 : Int) : F_ref01_Full p0 =
    bif (p0 == 255) then
      (true)
    else
      ((p0 == 65535)) :=
  spellV (L := L_ref01_Full) (fun l => tru ((l).getD 0 undef)) (evF Tryz.prog [] 1000 43 (inL A_ref01_Full [.int .u16 p0])) (L_ref01_Full_is _) (by kernel_rfl)

/-! compositor/round.Half -/
def A_round_Half : List PS := [.c (.i .u64), .c (.i .u64)]
def R_round_Half : RS := .one (.c (.i .u64))
noncomputable def L_round_Half : List Value → List Value := Classical.choose (veil fun vs => (evF Tryz.prog [] 1000 68 (inL A_round_Half vs)).outL)
theorem L_round_Half_is (vs : List Value) : L_round_Half vs = (evF Tryz.prog [] 1000 68 (inL A_round_Half vs)).outL := Classical.choose_spec (veil fun vs => (evF Tryz.prog [] 1000 68 (inL A_round_Half vs)).outL) vs
noncomputable def S_round_Half : Sum := ⟨68, L_round_Half, A_round_Half, R_round_Half⟩
theorem okB_round_Half (p0 : Int) (p1 : Int) : (evF Tryz.prog [] 1000 68 (inL A_round_Half [.int .u64 p0, .int .u64 p1])).ok =
    bif (p1 == 0) then
      (true)
    else
      (bif (p1 == 0) then
        (false)
      else
        (bif (p1 == 0) then
          (false)
        else
          (true))) := (okR_eq _).trans (by kernel_rfl)
theorem okA_round_Half (h : ∀ p0 p1 , IntKind.u64.min ≤ p0 → p0 ≤ IntKind.u64.max → IntKind.u64.min ≤ p1 → p1 ≤ IntKind.u64.max → (evF Tryz.prog [] 1000 68 (inL A_round_Half [.int .u64 p0, .int .u64 p1])).ok = true) : SumOK Tryz.prog Inv S_round_Half := sumOK_partV inv_stays allOK_nil 1000 68 A_round_Half R_round_Half L_round_Half_is (fun _ => by kernel_rfl) (fun vs hk => by
  obtain ⟨_, _, rfl, ⟨p0, rfl, p0lo, p0hi⟩, _, _, rfl, ⟨p1, rfl, p1lo, p1hi⟩, rfl⟩ := hk
  exact h p0 p1 p0lo p0hi p1lo p1hi )
theorem ok_round_Half : SumOK Tryz.prog Inv S_round_Half := okA_round_Half fun p0 p1 _ _ _ _ => by
  rw [okB_round_Half]
  generalize (p1 == 0) = b
  cases b <;> rfl
noncomputable def F_round_Half (p0 : Int) (p1 : Int) : Int := num ((L_round_Half [.int .u64 p0, .int .u64 p1]).getD 0 undef)
theorem F_round_Half_eq (p0 : Int) (p1 : Int) : F_round_Half p0 p1 =
    bif (p1 == 0) then
      (0)
    else
      (bif (p1 == 0) then
        ((num undef))
      else
        (bif (p1 == 0) then
          ((num undef))
        else
          (bif (decide ((Int.tmod p0 p1) ≥ (IntKind.u64.wrap (p1 - (Int.tmod p0 p1))))) then
            ((IntKind.u64.wrap ((IntKind.u64.wrap (Int.tdiv p0 p1)) + 1)))
          else
            ((IntKind.u64.wrap (Int.tdiv p0 p1)))))) :=
  spellV (L := L_round_Half) (fun l => num ((l).getD 0 undef)) (evF Tryz.prog [] 1000 68 (inL A_round_Half [.int .u64 p0, .int .u64 p1])) (L_round_Half_is _) (by kernel_rfl)









end Go.Proofs.YtfjhhadmncjdiaaGreatDoor
