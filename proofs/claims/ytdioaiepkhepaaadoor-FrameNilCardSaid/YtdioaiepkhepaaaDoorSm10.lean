/- What the functions of chapter 10 compute. Printed by a program (gen/Gen.lean); what each function does is told by the evaluator, and the kernel checks it. No condition. -/
import Derived.Test.YtdioaiepkhepaaaDoorSm06
import Derived.Test.YtdioaiepkhepaaaDoorLaw03
import Derived.KernelRfl
namespace Go.Proofs.YtdioaiepkhepaaaDoor
open Go.RowKit

/-! compositor/compositorref01.Full -/
def A_ref01_Full : List PS := [.c (.i .u16)]
def R_ref01_Full : RS := .one (.c (.b))
noncomputable def L_ref01_Full : List Value → List Value := Classical.choose (veil fun vs => (evF Tryd.prog [] 1000 24 (inL A_ref01_Full vs)).outL)
theorem L_ref01_Full_is (vs : List Value) : L_ref01_Full vs = (evF Tryd.prog [] 1000 24 (inL A_ref01_Full vs)).outL := Classical.choose_spec (veil fun vs => (evF Tryd.prog [] 1000 24 (inL A_ref01_Full vs)).outL) vs
noncomputable def S_ref01_Full : Sum := ⟨24, L_ref01_Full, A_ref01_Full, R_ref01_Full⟩
theorem ok_ref01_Full : SumOK Tryd.prog Inv S_ref01_Full := sumOK_evV inv_stays allOK_nil 1000 24 A_ref01_Full R_ref01_Full L_ref01_Full_is (fun _ => by kernel_rfl)
noncomputable def F_ref01_Full (p0 : Int) : Bool := tru ((L_ref01_Full [.int .u16 p0]).getD 0 undef)
theorem F_ref01_Full_eq (p0 : Int) : F_ref01_Full p0 =
    bif (p0 == 255) then
      (true)
    else
      ((p0 == 65535)) :=
  spellV (L := L_ref01_Full) (fun l => tru ((l).getD 0 undef)) (evF Tryd.prog [] 1000 24 (inL A_ref01_Full [.int .u16 p0])) (L_ref01_Full_is _) (by kernel_rfl)

/-! compositor/round.Half -/
def A_round_Half : List PS := [.c (.i .u64), .c (.i .u64)]
def R_round_Half : RS := .one (.c (.i .u64))
noncomputable def L_round_Half : List Value → List Value := Classical.choose (veil fun vs => (evF Tryd.prog [] 1000 47 (inL A_round_Half vs)).outL)
theorem L_round_Half_is (vs : List Value) : L_round_Half vs = (evF Tryd.prog [] 1000 47 (inL A_round_Half vs)).outL := Classical.choose_spec (veil fun vs => (evF Tryd.prog [] 1000 47 (inL A_round_Half vs)).outL) vs
noncomputable def S_round_Half : Sum := ⟨47, L_round_Half, A_round_Half, R_round_Half⟩
theorem okB_round_Half (p0 : Int) (p1 : Int) : (evF Tryd.prog [] 1000 47 (inL A_round_Half [.int .u64 p0, .int .u64 p1])).ok =
    bif (p1 == 0) then
      (true)
    else
      (bif (p1 == 0) then
        (false)
      else
        (bif (p1 == 0) then
          (false)
        else
          (true))) := (okR_eq _).trans (by kernel_rfl)
theorem okA_round_Half (h : ∀ p0 p1 , IntKind.u64.min ≤ p0 → p0 ≤ IntKind.u64.max → IntKind.u64.min ≤ p1 → p1 ≤ IntKind.u64.max → (evF Tryd.prog [] 1000 47 (inL A_round_Half [.int .u64 p0, .int .u64 p1])).ok = true) : SumOK Tryd.prog Inv S_round_Half := sumOK_partV inv_stays allOK_nil 1000 47 A_round_Half R_round_Half L_round_Half_is (fun _ => by kernel_rfl) (fun vs hk => by
  obtain ⟨_, _, rfl, ⟨p0, rfl, p0lo, p0hi⟩, _, _, rfl, ⟨p1, rfl, p1lo, p1hi⟩, rfl⟩ := hk
  exact h p0 p1 p0lo p0hi p1lo p1hi )
theorem ok_round_Half : SumOK Tryd.prog Inv S_round_Half := okA_round_Half fun p0 p1 _ _ _ _ => by
  rw [okB_round_Half]
  generalize (p1 == 0) = b
  cases b <;> rfl
noncomputable def F_round_Half (p0 : Int) (p1 : Int) : Int := num ((L_round_Half [.int .u64 p0, .int .u64 p1]).getD 0 undef)
theorem F_round_Half_eq (p0 : Int) (p1 : Int) : F_round_Half p0 p1 =
    bif (p1 == 0) then
      (0)
    else
      (bif (p1 == 0) then
        ((num undef))
      else
        (bif (p1 == 0) then
          ((num undef))
        else
          (bif (decide ((Int.tmod p0 p1) ≥ (IntKind.u64.wrap (p1 - (Int.tmod p0 p1))))) then
            ((IntKind.u64.wrap ((IntKind.u64.wrap (Int.tdiv p0 p1)) + 1)))
          else
            ((IntKind.u64.wrap (Int.tdiv p0 p1)))))) :=
  spellV (L := L_round_Half) (fun l => num ((l).getD 0 undef)) (evF Tryd.prog [] 1000 47 (inL A_round_Half [.int .u64 p0, .int .u64 p1])) (L_round_Half_is _) (by kernel_rfl)

/-! compositor/knockout.sum -/
def A_knockout_sum : List PS := [.c (.i .u16), .c (.i .u16), .c (.i .u16), .c (.i .u16), .c (.i .u16), .c (.i .u16)]
def R_knockout_sum : RS := .one (.c (.i .u64))
noncomputable def L_knockout_sum : List Value → List Value := Classical.choose (veil fun vs => (evF Tryd.prog [] 1000 60 (inL A_knockout_sum vs)).outL)
theorem L_knockout_sum_is (vs : List Value) : L_knockout_sum vs = (evF Tryd.prog [] 1000 60 (inL A_knockout_sum vs)).outL := Classical.choose_spec (veil fun vs => (evF Tryd.prog [] 1000 60 (inL A_knockout_sum vs)).outL) vs
noncomputable def S_knockout_sum : Sum := ⟨60, L_knockout_sum, A_knockout_sum, R_knockout_sum⟩
theorem ok_knockout_sum : SumOK Tryd.prog Inv S_knockout_sum := sumOK_evV inv_stays allOK_nil 1000 60 A_knockout_sum R_knockout_sum L_knockout_sum_is (fun _ => by kernel_rfl)
noncomputable def F_knockout_sum (p0 : Int) (p1 : Int) (p2 : Int) (p3 : Int) (p4 : Int) (p5 : Int) : Int := num ((L_knockout_sum [.int .u16 p0, .int .u16 p1, .int .u16 p2, .int .u16 p3, .int .u16 p4, .int .u16 p5]).getD 0 undef)
theorem F_knockout_sum_eq (p0 : Int) (p1 : Int) (p2 : Int) (p3 : Int) (p4 : Int) (p5 : Int) : F_knockout_sum p0 p1 p2 p3 p4 p5 =
    (IntKind.u64.wrap ((IntKind.u64.wrap ((IntKind.u64.wrap (p0 * p1)) + (IntKind.u64.wrap (p2 * p3)))) + (IntKind.u64.wrap (p4 * p5)))) :=
  spellV (L := L_knockout_sum) (fun l => num ((l).getD 0 undef)) (evF Tryd.prog [] 1000 60 (inL A_knockout_sum [.int .u16 p0, .int .u16 p1, .int .u16 p2, .int .u16 p3, .int .u16 p4, .int .u16 p5])) (L_knockout_sum_is _) (by kernel_rfl)

/-! compositor/knockout.Color -/
def A_knockout_Color : List PS := [.c (.i .i64), .c (.i .u16), .c (.i .u16), .c (.i .u16), .c (.i .u16), .c (.i .u16), .c (.i .u16), .c (.i .u16)]
def R_knockout_Color : RS := .tup [.c (.i .u16), .c (.b)]
noncomputable def L_knockout_Color : List Value → List Value := Classical.choose (veil fun vs => (evF Tryd.prog [S_wide_Add, S_wide_Mul, S_surd_Half, S_blend_Exact, S_knockout_sum] 1000 48 (inL A_knockout_Color vs)).outL)
theorem L_knockout_Color_is (vs : List Value) : L_knockout_Color vs = (evF Tryd.prog [S_wide_Add, S_wide_Mul, S_surd_Half, S_blend_Exact, S_knockout_sum] 1000 48 (inL A_knockout_Color vs)).outL := Classical.choose_spec (veil fun vs => (evF Tryd.prog [S_wide_Add, S_wide_Mul, S_surd_Half, S_blend_Exact, S_knockout_sum] 1000 48 (inL A_knockout_Color vs)).outL) vs
noncomputable def S_knockout_Color : Sum := ⟨48, L_knockout_Color, A_knockout_Color, R_knockout_Color⟩
theorem ok_knockout_Color : SumOK Tryd.prog Inv S_knockout_Color := sumOK_evV inv_stays (allOK_cons ok_wide_Add (allOK_cons ok_wide_Mul (allOK_cons ok_surd_Half (allOK_cons ok_blend_Exact (allOK_cons ok_knockout_sum allOK_nil))))) 1000 48 A_knockout_Color R_knockout_Color L_knockout_Color_is (fun _ => by kernel_rfl)
noncomputable def F_knockout_Color (p0 : Int) (p1 : Int) (p2 : Int) (p3 : Int) (p4 : Int) (p5 : Int) (p6 : Int) (p7 : Int) : Int × Bool := (num ((L_knockout_Color [.int .i64 p0, .int .u16 p1, .int .u16 p2, .int .u16 p3, .int .u16 p4, .int .u16 p5, .int .u16 p6, .int .u16 p7]).getD 0 undef), tru ((L_knockout_Color [.int .i64 p0, .int .u16 p1, .int .u16 p2, .int .u16 p3, .int .u16 p4, .int .u16 p5, .int .u16 p6, .int .u16 p7]).getD 1 undef))
theorem F_knockout_Color_eq (p0 : Int) (p1 : Int) (p2 : Int) (p3 : Int) (p4 : Int) (p5 : Int) (p6 : Int) (p7 : Int) : F_knockout_Color p0 p1 p2 p3 p4 p5 p6 p7 =
    let x0 := F_blend_Exact p0 p2 p3 p6 p7
    bif (!x0.2.2.2.2.2) then
      ((0, false))
    else
      (bif (p1 == 255) then
        (bif (decide (p3 > p4)) then
          ((0, false))
        else
          (bif (decide (p4 > p1)) then
            ((0, false))
          else
            (bif (decide (p7 > p1)) then
              ((0, false))
            else
              (bif (decide (p5 > p1)) then
                ((0, false))
              else
                (let x1 := F_knockout_sum (IntKind.u16.wrap (p1 - p4)) p5 (IntKind.u16.wrap (p4 - p3)) p6 (IntKind.u16.wrap (p1 - p7)) p2
                let x2 := F_wide_Mul x1 x0.2.2.2.2.1
                let x3 := F_wide_Add x2.1 x2.2 x0.1 x0.2.1
                let x4 := F_surd_Half x3.1 x3.2.1 x0.2.2.1 x0.2.2.2.1 (IntKind.u64.wrap (p1 * x0.2.2.2.2.1))
                ((IntKind.u16.wrap x4.1), x4.2))))))
      else
        (bif (!(p1 == 65535)) then
          ((0, false))
        else
          (bif (decide (p3 > p4)) then
            ((0, false))
          else
            (bif (decide (p4 > p1)) then
              ((0, false))
            else
              (bif (decide (p7 > p1)) then
                ((0, false))
              else
                (bif (decide (p5 > p1)) then
                  ((0, false))
                else
                  (let x5 := F_knockout_sum (IntKind.u16.wrap (p1 - p4)) p5 (IntKind.u16.wrap (p4 - p3)) p6 (IntKind.u16.wrap (p1 - p7)) p2
                  let x6 := F_wide_Mul x5 x0.2.2.2.2.1
                  let x7 := F_wide_Add x6.1 x6.2 x0.1 x0.2.1
                  let x8 := F_surd_Half x7.1 x7.2.1 x0.2.2.1 x0.2.2.2.1 (IntKind.u64.wrap (p1 * x0.2.2.2.2.1))
                  ((IntKind.u16.wrap x8.1), x8.2)))))))) :=
  spellV (L := L_knockout_Color) (fun l => (num ((l).getD 0 undef), tru ((l).getD 1 undef))) (evF Tryd.prog [S_wide_Add, S_wide_Mul, S_surd_Half, S_blend_Exact, S_knockout_sum] 1000 48 (inL A_knockout_Color [.int .i64 p0, .int .u16 p1, .int .u16 p2, .int .u16 p3, .int .u16 p4, .int .u16 p5, .int .u16 p6, .int .u16 p7])) (L_knockout_Color_is _) (by kernel_rfl)

/-! compositor/knockout.Alpha -/
def A_knockout_Alpha : List PS := [.c (.i .u16), .c (.i .u16), .c (.i .u16), .c (.i .u16), .c (.i .u16)]
def R_knockout_Alpha : RS := .tup [.c (.i .u16), .c (.b)]
noncomputable def L_knockout_Alpha : List Value → List Value := Classical.choose (veil fun vs => (evF Tryd.prog [S_round_Half, S_knockout_sum] 1000 49 (inL A_knockout_Alpha vs)).outL)
theorem L_knockout_Alpha_is (vs : List Value) : L_knockout_Alpha vs = (evF Tryd.prog [S_round_Half, S_knockout_sum] 1000 49 (inL A_knockout_Alpha vs)).outL := Classical.choose_spec (veil fun vs => (evF Tryd.prog [S_round_Half, S_knockout_sum] 1000 49 (inL A_knockout_Alpha vs)).outL) vs
noncomputable def S_knockout_Alpha : Sum := ⟨49, L_knockout_Alpha, A_knockout_Alpha, R_knockout_Alpha⟩
theorem ok_knockout_Alpha : SumOK Tryd.prog Inv S_knockout_Alpha := sumOK_evV inv_stays (allOK_cons ok_round_Half (allOK_cons ok_knockout_sum allOK_nil)) 1000 49 A_knockout_Alpha R_knockout_Alpha L_knockout_Alpha_is (fun _ => by kernel_rfl)
noncomputable def F_knockout_Alpha (p0 : Int) (p1 : Int) (p2 : Int) (p3 : Int) (p4 : Int) : Int × Bool := (num ((L_knockout_Alpha [.int .u16 p0, .int .u16 p1, .int .u16 p2, .int .u16 p3, .int .u16 p4]).getD 0 undef), tru ((L_knockout_Alpha [.int .u16 p0, .int .u16 p1, .int .u16 p2, .int .u16 p3, .int .u16 p4]).getD 1 undef))
theorem F_knockout_Alpha_eq (p0 : Int) (p1 : Int) (p2 : Int) (p3 : Int) (p4 : Int) : F_knockout_Alpha p0 p1 p2 p3 p4 =
    bif (p0 == 255) then
      (bif (decide (p1 > p2)) then
        ((0, false))
      else
        (bif (decide (p2 > p0)) then
          ((0, false))
        else
          (bif (decide (p3 > p0)) then
            ((0, false))
          else
            (bif (decide (p4 > p0)) then
              ((0, false))
            else
              (let x0 := F_knockout_sum (IntKind.u16.wrap (p0 - p2)) p3 (IntKind.u16.wrap (p2 - p1)) p4 p0 p1
              let x1 := F_round_Half x0 p0
              ((IntKind.u16.wrap x1), true))))))
    else
      (bif (!(p0 == 65535)) then
        ((0, false))
      else
        (bif (decide (p1 > p2)) then
          ((0, false))
        else
          (bif (decide (p2 > p0)) then
            ((0, false))
          else
            (bif (decide (p3 > p0)) then
              ((0, false))
            else
              (bif (decide (p4 > p0)) then
                ((0, false))
              else
                (let x2 := F_knockout_sum (IntKind.u16.wrap (p0 - p2)) p3 (IntKind.u16.wrap (p2 - p1)) p4 p0 p1
                let x3 := F_round_Half x2 p0
                ((IntKind.u16.wrap x3), true))))))) :=
  spellV (L := L_knockout_Alpha) (fun l => (num ((l).getD 0 undef), tru ((l).getD 1 undef))) (evF Tryd.prog [S_round_Half, S_knockout_sum] 1000 49 (inL A_knockout_Alpha [.int .u16 p0, .int .u16 p1, .int .u16 p2, .int .u16 p3, .int .u16 p4])) (L_knockout_Alpha_is _) (by kernel_rfl)

/-! compositor/knockout.Own -/
def A_knockout_Own : List PS := [.c (.i .u16), .c (.i .u16), .c (.i .u16), .c (.i .u16)]
def R_knockout_Own : RS := .tup [.c (.i .u16), .c (.b)]
noncomputable def L_knockout_Own : List Value → List Value := Classical.choose (veil fun vs => (evF Tryd.prog [S_knockout_Alpha] 1000 50 (inL A_knockout_Own vs)).outL)
theorem L_knockout_Own_is (vs : List Value) : L_knockout_Own vs = (evF Tryd.prog [S_knockout_Alpha] 1000 50 (inL A_knockout_Own vs)).outL := Classical.choose_spec (veil fun vs => (evF Tryd.prog [S_knockout_Alpha] 1000 50 (inL A_knockout_Own vs)).outL) vs
noncomputable def S_knockout_Own : Sum := ⟨50, L_knockout_Own, A_knockout_Own, R_knockout_Own⟩
theorem ok_knockout_Own : SumOK Tryd.prog Inv S_knockout_Own := sumOK_evV inv_stays (allOK_cons ok_knockout_Alpha allOK_nil) 1000 50 A_knockout_Own R_knockout_Own L_knockout_Own_is (fun _ => by kernel_rfl)
noncomputable def F_knockout_Own (p0 : Int) (p1 : Int) (p2 : Int) (p3 : Int) : Int × Bool := (num ((L_knockout_Own [.int .u16 p0, .int .u16 p1, .int .u16 p2, .int .u16 p3]).getD 0 undef), tru ((L_knockout_Own [.int .u16 p0, .int .u16 p1, .int .u16 p2, .int .u16 p3]).getD 1 undef))
theorem F_knockout_Own_eq (p0 : Int) (p1 : Int) (p2 : Int) (p3 : Int) : F_knockout_Own p0 p1 p2 p3 =
    let x0 := F_knockout_Alpha p0 p1 p2 p3 0
    (x0.1, x0.2) :=
  spellV (L := L_knockout_Own) (fun l => (num ((l).getD 0 undef), tru ((l).getD 1 undef))) (evF Tryd.prog [S_knockout_Alpha] 1000 50 (inL A_knockout_Own [.int .u16 p0, .int .u16 p1, .int .u16 p2, .int .u16 p3])) (L_knockout_Own_is _) (by kernel_rfl)





end Go.Proofs.YtdioaiepkhepaaaDoor
