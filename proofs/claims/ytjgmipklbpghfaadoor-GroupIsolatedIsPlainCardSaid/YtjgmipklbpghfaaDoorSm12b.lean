/- The statements of chapter 12, their checks. Printed by a program (gen/Gen.lean); what each function does is told by the evaluator, and the kernel checks it. No condition. -/
import Derived.Test.YtjgmipklbpghfaaDoorSm12
import Derived.KernelRfl
namespace Go.Proofs.YtjgmipklbpghfaaDoor
open Go.RowKit

/-! compositor/compositorlaw12.GroupBeginAgrees -/
def A_law12_GroupBeginAgrees : List PS := [.c (.b), .c (.b), .agg [.i .i64, .i .i64, .i .i64, .i .i64, .i .i64], .agg [.i .i64, .i .i64, .i .i64, .i .i64, .i .i64], .c (.i .i64), .c (.i .i64), .agg [.i .u16, .i .u16, .i .u16, .i .u16, .i .u16, .i .u16], .agg [.i .u16, .i .u16, .i .u16, .i .u16, .i .u16], .c (.i .u16)]
def R_law12_GroupBeginAgrees : RS := .one (.c (.b))
noncomputable def L_law12_GroupBeginAgrees : List Value → List Value := Classical.choose (veil fun vs => (evF Tryd.prog [S_gen_Max, S_gen_Back, S_gen_Accum, S_group_Valid, S_group_Begin, S_ref06_ValidAccum, S_ref06_Begin, S_law12_awake] 1000 3 (inL A_law12_GroupBeginAgrees vs)).outL)
theorem L_law12_GroupBeginAgrees_is (vs : List Value) : L_law12_GroupBeginAgrees vs = (evF Tryd.prog [S_gen_Max, S_gen_Back, S_gen_Accum, S_group_Valid, S_group_Begin, S_ref06_ValidAccum, S_ref06_Begin, S_law12_awake] 1000 3 (inL A_law12_GroupBeginAgrees vs)).outL := Classical.choose_spec (veil fun vs => (evF Tryd.prog [S_gen_Max, S_gen_Back, S_gen_Accum, S_group_Valid, S_group_Begin, S_ref06_ValidAccum, S_ref06_Begin, S_law12_awake] 1000 3 (inL A_law12_GroupBeginAgrees vs)).outL) vs
noncomputable def S_law12_GroupBeginAgrees : Sum := ⟨3, L_law12_GroupBeginAgrees, A_law12_GroupBeginAgrees, R_law12_GroupBeginAgrees⟩
theorem ok_law12_GroupBeginAgrees : SumOK Tryd.prog InvN S_law12_GroupBeginAgrees := sumOK_evV invN_stays (allOK_cons ok_gen_Max.any (allOK_cons ok_gen_Back (allOK_cons ok_gen_Accum (allOK_cons ok_group_Valid (allOK_cons ok_group_Begin (allOK_cons ok_ref06_ValidAccum (allOK_cons ok_ref06_Begin (allOK_cons ok_law12_awake allOK_nil)))))))) 1000 3 A_law12_GroupBeginAgrees R_law12_GroupBeginAgrees L_law12_GroupBeginAgrees_is (fun _ => by kernel_rfl)
noncomputable def F_law12_GroupBeginAgrees (p0 : Bool) (p1 : Bool) (p2 : Int) (p3 : Int) (p4 : Int) (p5 : Int) (p6 : Int) (p7 : Int) (p8 : Int) (p9 : Int) (p10 : Int) (p11 : Int) (p12 : Int) (p13 : Int) (p14 : Int) (p15 : Int) (p16 : Int) (p17 : Int) (p18 : Int) (p19 : Int) (p20 : Int) (p21 : Int) (p22 : Int) (p23 : Int) (p24 : Int) (p25 : Int) : Bool := tru ((L_law12_GroupBeginAgrees [.bool p0, .bool p1, .int .i64 p2, .int .i64 p3, .int .i64 p4, .int .i64 p5, .int .i64 p6, .int .i64 p7, .int .i64 p8, .int .i64 p9, .int .i64 p10, .int .i64 p11, .int .i64 p12, .int .i64 p13, .int .u16 p14, .int .u16 p15, .int .u16 p16, .int .u16 p17, .int .u16 p18, .int .u16 p19, .int .u16 p20, .int .u16 p21, .int .u16 p22, .int .u16 p23, .int .u16 p24, .int .u16 p25]).getD 0 undef)
theorem F_law12_GroupBeginAgrees_eq (p0 : Bool) (p1 : Bool) (p2 : Int) (p3 : Int) (p4 : Int) (p5 : Int) (p6 : Int) (p7 : Int) (p8 : Int) (p9 : Int) (p10 : Int) (p11 : Int) (p12 : Int) (p13 : Int) (p14 : Int) (p15 : Int) (p16 : Int) (p17 : Int) (p18 : Int) (p19 : Int) (p20 : Int) (p21 : Int) (p22 : Int) (p23 : Int) (p24 : Int) (p25 : Int) : F_law12_GroupBeginAgrees p0 p1 p2 p3 p4 p5 p6 p7 p8 p9 p10 p11 p12 p13 p14 p15 p16 p17 p18 p19 p20 p21 p22 p23 p24 p25 =
    let x0 := F_law12_awake
    bif x0 then
      (let x1 := F_gen_Max p13
      let x2 := F_gen_Accum p2 p3 p4 p5 p6 p12 x1
      let x3 := F_gen_Back p7 p8 p9 p10 p11 x1
      let x4 := F_group_Begin p0 p1 x2.1 x2.2.1 x2.2.2.1 x2.2.2.2.1 x2.2.2.2.2.1 x2.2.2.2.2.2 x3.1 x3.2.1 x3.2.2.1 x3.2.2.2.1 x3.2.2.2.2
      let x5 := F_ref06_Begin p0 p1 x2.1 x2.2.1 x2.2.2.1 x2.2.2.2.1 x2.2.2.2.2.1 x2.2.2.2.2.2 x3.1 x3.2.1 x3.2.2.1 x3.2.2.2.1 x3.2.2.2.2
      bif (((x4.1 == x5.1) && ((x4.2.1 == x5.2.1) && (x4.2.2.1 == x5.2.2.1))) && ((x4.2.2.2.1 == x5.2.2.2.1) && ((x4.2.2.2.2.1 == x5.2.2.2.2.1) && (x4.2.2.2.2.2.1 == x5.2.2.2.2.2.1)))) then
        (bif (((x4.2.2.2.2.2.2.1 == x5.2.2.2.2.2.2.1) && ((x4.2.2.2.2.2.2.2.1 == x5.2.2.2.2.2.2.2.1) && (x4.2.2.2.2.2.2.2.2.1 == x5.2.2.2.2.2.2.2.2.1))) && ((x4.2.2.2.2.2.2.2.2.2.1 == x5.2.2.2.2.2.2.2.2.2.1) && (x4.2.2.2.2.2.2.2.2.2.2 == x5.2.2.2.2.2.2.2.2.2.2))) then
          (let x6 := F_group_Begin p0 p1 p14 p15 p16 p17 p18 p19 p20 p21 p22 p23 p24
          let x7 := F_ref06_Begin p0 p1 p14 p15 p16 p17 p18 p19 p20 p21 p22 p23 p24
          bif (((x6.1 == x7.1) && ((x6.2.1 == x7.2.1) && (x6.2.2.1 == x7.2.2.1))) && ((x6.2.2.2.1 == x7.2.2.2.1) && ((x6.2.2.2.2.1 == x7.2.2.2.2.1) && (x6.2.2.2.2.2.1 == x7.2.2.2.2.2.1)))) then
            (bif (((x6.2.2.2.2.2.2.1 == x7.2.2.2.2.2.2.1) && ((x6.2.2.2.2.2.2.2.1 == x7.2.2.2.2.2.2.2.1) && (x6.2.2.2.2.2.2.2.2.1 == x7.2.2.2.2.2.2.2.2.1))) && ((x6.2.2.2.2.2.2.2.2.2.1 == x7.2.2.2.2.2.2.2.2.2.1) && (x6.2.2.2.2.2.2.2.2.2.2 == x7.2.2.2.2.2.2.2.2.2.2))) then
              (let x8 := F_group_Valid x2.1 x2.2.1 x2.2.2.1 x2.2.2.2.1 x2.2.2.2.2.1 x2.2.2.2.2.2 x3.1 x3.2.1 x3.2.2.1 x3.2.2.2.1 x3.2.2.2.2 x1
              bif x8 then
                (let x9 := F_group_Valid x4.1 x4.2.1 x4.2.2.1 x4.2.2.2.1 x4.2.2.2.2.1 x4.2.2.2.2.2.1 x4.2.2.2.2.2.2.1 x4.2.2.2.2.2.2.2.1 x4.2.2.2.2.2.2.2.2.1 x4.2.2.2.2.2.2.2.2.2.1 x4.2.2.2.2.2.2.2.2.2.2 x1
                bif x9 then
                  (let x10 := F_group_Valid p14 p15 p16 p17 p18 p19 p20 p21 p22 p23 p24 p25
                  let x11 := F_ref06_ValidAccum p14 p15 p16 p17 p18 p19 p20 p21 p22 p23 p24 p25
                  (x10 == x11))
                else
                  (false))
              else
                (false))
            else
              (false))
          else
            (false))
        else
          (false))
      else
        (false))
    else
      (false) :=
  spellV (L := L_law12_GroupBeginAgrees) (fun l => tru ((l).getD 0 undef)) (evF Tryd.prog [S_gen_Max, S_gen_Back, S_gen_Accum, S_group_Valid, S_group_Begin, S_ref06_ValidAccum, S_ref06_Begin, S_law12_awake] 1000 3 (inL A_law12_GroupBeginAgrees [.bool p0, .bool p1, .int .i64 p2, .int .i64 p3, .int .i64 p4, .int .i64 p5, .int .i64 p6, .int .i64 p7, .int .i64 p8, .int .i64 p9, .int .i64 p10, .int .i64 p11, .int .i64 p12, .int .i64 p13, .int .u16 p14, .int .u16 p15, .int .u16 p16, .int .u16 p17, .int .u16 p18, .int .u16 p19, .int .u16 p20, .int .u16 p21, .int .u16 p22, .int .u16 p23, .int .u16 p24, .int .u16 p25])) (L_law12_GroupBeginAgrees_is _) (by kernel_rfl)

/-! compositor/compositorlaw12.GroupValidNeedsEachField -/
def A_law12_GroupValidNeedsEachField : List PS := [.agg [.i .i64, .i .i64, .i .i64, .i .i64, .i .i64], .agg [.i .i64, .i .i64, .i .i64, .i .i64, .i .i64], .c (.i .i64), .c (.i .i64), .c (.i .i64)]
def R_law12_GroupValidNeedsEachField : RS := .one (.c (.b))
noncomputable def L_law12_GroupValidNeedsEachField : List Value → List Value := Classical.choose (veil fun vs => (evF Tryd.prog [S_gen_Mod, S_gen_Max, S_gen_Back, S_gen_Accum, S_group_Valid, S_law12_awake] 1000 4 (inL A_law12_GroupValidNeedsEachField vs)).outL)
theorem L_law12_GroupValidNeedsEachField_is (vs : List Value) : L_law12_GroupValidNeedsEachField vs = (evF Tryd.prog [S_gen_Mod, S_gen_Max, S_gen_Back, S_gen_Accum, S_group_Valid, S_law12_awake] 1000 4 (inL A_law12_GroupValidNeedsEachField vs)).outL := Classical.choose_spec (veil fun vs => (evF Tryd.prog [S_gen_Mod, S_gen_Max, S_gen_Back, S_gen_Accum, S_group_Valid, S_law12_awake] 1000 4 (inL A_law12_GroupValidNeedsEachField vs)).outL) vs
noncomputable def S_law12_GroupValidNeedsEachField : Sum := ⟨4, L_law12_GroupValidNeedsEachField, A_law12_GroupValidNeedsEachField, R_law12_GroupValidNeedsEachField⟩
theorem okB_law12_GroupValidNeedsEachField (p0 : Int) (p1 : Int) (p2 : Int) (p3 : Int) (p4 : Int) (p5 : Int) (p6 : Int) (p7 : Int) (p8 : Int) (p9 : Int) (p10 : Int) (p11 : Int) (p12 : Int) : (evF Tryd.prog [S_gen_Mod, S_gen_Max, S_gen_Back, S_gen_Accum, S_group_Valid, S_law12_awake] 1000 4 (inL A_law12_GroupValidNeedsEachField [.int .i64 p0, .int .i64 p1, .int .i64 p2, .int .i64 p3, .int .i64 p4, .int .i64 p5, .int .i64 p6, .int .i64 p7, .int .i64 p8, .int .i64 p9, .int .i64 p10, .int .i64 p11, .int .i64 p12])).ok =
    let x0 := F_gen_Mod p12 6
    bif (x0 == 0) then
      (let x1 := F_gen_Mod (IntKind.i64.wrap (Int.tdiv p12 6)) 3
      bif (x1 == 0) then
        (true)
      else
        (bif (x1 == 1) then
          (true)
        else
          (bif (x1 == 2) then
            (true)
          else
            (false))))
    else
      (true) := (okR_eq _).trans (by kernel_rfl)
theorem okA_law12_GroupValidNeedsEachField (h : ∀ p0 p1 p2 p3 p4 p5 p6 p7 p8 p9 p10 p11 p12 , IntKind.i64.min ≤ p0 → p0 ≤ IntKind.i64.max → IntKind.i64.min ≤ p1 → p1 ≤ IntKind.i64.max → IntKind.i64.min ≤ p2 → p2 ≤ IntKind.i64.max → IntKind.i64.min ≤ p3 → p3 ≤ IntKind.i64.max → IntKind.i64.min ≤ p4 → p4 ≤ IntKind.i64.max → IntKind.i64.min ≤ p5 → p5 ≤ IntKind.i64.max → IntKind.i64.min ≤ p6 → p6 ≤ IntKind.i64.max → IntKind.i64.min ≤ p7 → p7 ≤ IntKind.i64.max → IntKind.i64.min ≤ p8 → p8 ≤ IntKind.i64.max → IntKind.i64.min ≤ p9 → p9 ≤ IntKind.i64.max → IntKind.i64.min ≤ p10 → p10 ≤ IntKind.i64.max → IntKind.i64.min ≤ p11 → p11 ≤ IntKind.i64.max → IntKind.i64.min ≤ p12 → p12 ≤ IntKind.i64.max → (evF Tryd.prog [S_gen_Mod, S_gen_Max, S_gen_Back, S_gen_Accum, S_group_Valid, S_law12_awake] 1000 4 (inL A_law12_GroupValidNeedsEachField [.int .i64 p0, .int .i64 p1, .int .i64 p2, .int .i64 p3, .int .i64 p4, .int .i64 p5, .int .i64 p6, .int .i64 p7, .int .i64 p8, .int .i64 p9, .int .i64 p10, .int .i64 p11, .int .i64 p12])).ok = true) : SumOK Tryd.prog InvN S_law12_GroupValidNeedsEachField := sumOK_partV invN_stays (allOK_cons ok_gen_Mod.any (allOK_cons ok_gen_Max.any (allOK_cons ok_gen_Back (allOK_cons ok_gen_Accum (allOK_cons ok_group_Valid (allOK_cons ok_law12_awake allOK_nil)))))) 1000 4 A_law12_GroupValidNeedsEachField R_law12_GroupValidNeedsEachField L_law12_GroupValidNeedsEachField_is (fun _ => by kernel_rfl) (fun vs hk => by
  obtain ⟨_, _, rfl, ⟨p0, rfl, p0lo, p0hi⟩, _, _, rfl, ⟨p1, rfl, p1lo, p1hi⟩, _, _, rfl, ⟨p2, rfl, p2lo, p2hi⟩, _, _, rfl, ⟨p3, rfl, p3lo, p3hi⟩, _, _, rfl, ⟨p4, rfl, p4lo, p4hi⟩, _, _, rfl, ⟨p5, rfl, p5lo, p5hi⟩, _, _, rfl, ⟨p6, rfl, p6lo, p6hi⟩, _, _, rfl, ⟨p7, rfl, p7lo, p7hi⟩, _, _, rfl, ⟨p8, rfl, p8lo, p8hi⟩, _, _, rfl, ⟨p9, rfl, p9lo, p9hi⟩, _, _, rfl, ⟨p10, rfl, p10lo, p10hi⟩, _, _, rfl, ⟨p11, rfl, p11lo, p11hi⟩, _, _, rfl, ⟨p12, rfl, p12lo, p12hi⟩, rfl⟩ := hk
  exact h p0 p1 p2 p3 p4 p5 p6 p7 p8 p9 p10 p11 p12 p0lo p0hi p1lo p1hi p2lo p2hi p3lo p3hi p4lo p4hi p5lo p5hi p6lo p6hi p7lo p7hi p8lo p8hi p9lo p9hi p10lo p10hi p11lo p11hi p12lo p12hi )
theorem ok_law12_GroupValidNeedsEachField : SumOK Tryd.prog InvN S_law12_GroupValidNeedsEachField := okA_law12_GroupValidNeedsEachField (by
  intro p0 p1 p2 p3 p4 p5 p6 p7 p8 p9 p10 p11 p12
  intros
  rw [okB_law12_GroupValidNeedsEachField]
  simp only [gMod (x := IntKind.i64.wrap (Int.tdiv p12 6)) (n := 3) (by decide) (by decide)]
  have e0 : IntKind.i64.wrap (Int.tdiv p12 6) % 3 = 0 ∨ IntKind.i64.wrap (Int.tdiv p12 6) % 3 = 1 ∨ IntKind.i64.wrap (Int.tdiv p12 6) % 3 = 2 := by omega
  generalize (F_gen_Mod p12 6 == 0) = c
  cases c
  · rfl
  · rcases e0 with h | h | h <;> rw [h] <;> rfl)
noncomputable def F_law12_GroupValidNeedsEachField (p0 : Int) (p1 : Int) (p2 : Int) (p3 : Int) (p4 : Int) (p5 : Int) (p6 : Int) (p7 : Int) (p8 : Int) (p9 : Int) (p10 : Int) (p11 : Int) (p12 : Int) : Bool := tru ((L_law12_GroupValidNeedsEachField [.int .i64 p0, .int .i64 p1, .int .i64 p2, .int .i64 p3, .int .i64 p4, .int .i64 p5, .int .i64 p6, .int .i64 p7, .int .i64 p8, .int .i64 p9, .int .i64 p10, .int .i64 p11, .int .i64 p12]).getD 0 undef)
theorem F_law12_GroupValidNeedsEachField_eq (p0 : Int) (p1 : Int) (p2 : Int) (p3 : Int) (p4 : Int) (p5 : Int) (p6 : Int) (p7 : Int) (p8 : Int) (p9 : Int) (p10 : Int) (p11 : Int) (p12 : Int) : F_law12_GroupValidNeedsEachField p0 p1 p2 p3 p4 p5 p6 p7 p8 p9 p10 p11 p12 =
    let x0 := F_gen_Mod p12 6
    bif (x0 == 0) then
      (let x1 := F_gen_Mod (IntKind.i64.wrap (Int.tdiv p12 6)) 3
      bif (x1 == 0) then
        (let x2 := F_gen_Max p11
        let x3 := F_gen_Accum p0 p1 p2 p3 p4 p10 x2
        bif (x3.2.2.2.1 == 65535) then
          (let x4 := F_law12_awake
          bif x4 then
            (let x5 := F_gen_Back p5 p6 p7 p8 p9 x2
            let x6 := F_group_Valid (IntKind.u16.wrap (x3.2.2.2.1 + 1)) x3.2.1 x3.2.2.1 x3.2.2.2.1 1 0 x5.1 x5.2.1 x5.2.2.1 x5.2.2.2.1 x5.2.2.2.2 x2
            (!x6))
          else
            (false))
        else
          (let x7 := F_law12_awake
          bif x7 then
            (let x8 := F_gen_Back p5 p6 p7 p8 p9 x2
            let x9 := F_group_Valid (IntKind.u16.wrap (x3.2.2.2.1 + 1)) x3.2.1 x3.2.2.1 x3.2.2.2.1 x3.2.2.2.2.1 x3.2.2.2.2.2 x8.1 x8.2.1 x8.2.2.1 x8.2.2.2.1 x8.2.2.2.2 x2
            (!x9))
          else
            (false)))
      else
        (bif (x1 == 1) then
          (let x10 := F_gen_Max p11
          let x11 := F_gen_Accum p0 p1 p2 p3 p4 p10 x10
          bif (x11.2.2.2.1 == 65535) then
            (let x12 := F_law12_awake
            bif x12 then
              (let x13 := F_gen_Back p5 p6 p7 p8 p9 x10
              let x14 := F_group_Valid x11.1 (IntKind.u16.wrap (x11.2.2.2.1 + 1)) x11.2.2.1 x11.2.2.2.1 1 0 x13.1 x13.2.1 x13.2.2.1 x13.2.2.2.1 x13.2.2.2.2 x10
              (!x14))
            else
              (false))
          else
            (let x15 := F_law12_awake
            bif x15 then
              (let x16 := F_gen_Back p5 p6 p7 p8 p9 x10
              let x17 := F_group_Valid x11.1 (IntKind.u16.wrap (x11.2.2.2.1 + 1)) x11.2.2.1 x11.2.2.2.1 x11.2.2.2.2.1 x11.2.2.2.2.2 x16.1 x16.2.1 x16.2.2.1 x16.2.2.2.1 x16.2.2.2.2 x10
              (!x17))
            else
              (false)))
        else
          (bif (x1 == 2) then
            (let x18 := F_gen_Max p11
            let x19 := F_gen_Accum p0 p1 p2 p3 p4 p10 x18
            bif (x19.2.2.2.1 == 65535) then
              (let x20 := F_law12_awake
              bif x20 then
                (let x21 := F_gen_Back p5 p6 p7 p8 p9 x18
                let x22 := F_group_Valid x19.1 x19.2.1 (IntKind.u16.wrap (x19.2.2.2.1 + 1)) x19.2.2.2.1 1 0 x21.1 x21.2.1 x21.2.2.1 x21.2.2.2.1 x21.2.2.2.2 x18
                (!x22))
              else
                (false))
            else
              (let x23 := F_law12_awake
              bif x23 then
                (let x24 := F_gen_Back p5 p6 p7 p8 p9 x18
                let x25 := F_group_Valid x19.1 x19.2.1 (IntKind.u16.wrap (x19.2.2.2.1 + 1)) x19.2.2.2.1 x19.2.2.2.2.1 x19.2.2.2.2.2 x24.1 x24.2.1 x24.2.2.1 x24.2.2.2.1 x24.2.2.2.2 x18
                (!x25))
              else
                (false)))
          else
            ((tru undef)))))
    else
      (bif (x0 == 1) then
        (let x26 := F_law12_awake
        bif x26 then
          (let x27 := F_gen_Max p11
          let x28 := F_gen_Accum p0 p1 p2 p3 p4 p10 x27
          let x29 := F_gen_Back p5 p6 p7 p8 p9 x27
          let x30 := F_group_Valid 0 0 0 (if (IntKind.u16.wrap (x27 - 1)) < x28.2.2.2.1 then (IntKind.u16.wrap (x27 - 1)) else x28.2.2.2.1) (IntKind.u16.wrap ((if (IntKind.u16.wrap (x27 - 1)) < x28.2.2.2.1 then (IntKind.u16.wrap (x27 - 1)) else x28.2.2.2.1) + 1)) x27 x29.1 x29.2.1 x29.2.2.1 x29.2.2.2.1 x29.2.2.2.2 x27
          (!x30))
        else
          (false))
      else
        (bif (x0 == 2) then
          (let x31 := F_law12_awake
          bif x31 then
            (let x32 := F_gen_Max p11
            let x33 := F_gen_Accum p0 p1 p2 p3 p4 p10 x32
            let x34 := F_gen_Back p5 p6 p7 p8 p9 x32
            let x35 := F_group_Valid x33.1 x33.2.1 x33.2.2.1 x32 1 0 x34.1 x34.2.1 x34.2.2.1 x34.2.2.2.1 x34.2.2.2.2 x32
            (!x35))
          else
            (false))
        else
          (bif (x0 == 3) then
            (let x36 := F_gen_Max p11
            let x37 := F_gen_Back p5 p6 p7 p8 p9 x36
            bif (x37.2.2.2.1 == 65535) then
              (let x38 := F_law12_awake
              bif x38 then
                (let x39 := F_gen_Accum p0 p1 p2 p3 p4 p10 x36
                let x40 := F_group_Valid x39.1 x39.2.1 x39.2.2.1 x39.2.2.2.1 x39.2.2.2.2.1 x39.2.2.2.2.2 x37.1 x37.2.1 x37.2.2.1 x37.2.2.2.1 0 x36
                (!x40))
              else
                (false))
            else
              (let x41 := F_law12_awake
              bif x41 then
                (let x42 := F_gen_Accum p0 p1 p2 p3 p4 p10 x36
                let x43 := F_group_Valid x42.1 x42.2.1 x42.2.2.1 x42.2.2.2.1 x42.2.2.2.2.1 x42.2.2.2.2.2 x37.1 x37.2.1 x37.2.2.1 x37.2.2.2.1 (IntKind.u16.wrap (x37.2.2.2.1 + 1)) x36
                (!x43))
              else
                (false)))
          else
            (bif (x0 == 4) then
              (let x44 := F_gen_Max p11
              let x45 := F_gen_Back p5 p6 p7 p8 p9 x44
              bif (x45.2.2.2.1 == 65535) then
                (let x46 := F_law12_awake
                bif x46 then
                  (let x47 := F_gen_Accum p0 p1 p2 p3 p4 p10 x44
                  let x48 := F_group_Valid x47.1 x47.2.1 x47.2.2.1 x47.2.2.2.1 x47.2.2.2.2.1 x47.2.2.2.2.2 1 x45.2.1 x45.2.2.1 0 0 x44
                  (!x48))
                else
                  (false))
              else
                (let x49 := F_law12_awake
                bif x49 then
                  (let x50 := F_gen_Accum p0 p1 p2 p3 p4 p10 x44
                  let x51 := F_group_Valid x50.1 x50.2.1 x50.2.2.1 x50.2.2.2.1 x50.2.2.2.2.1 x50.2.2.2.2.2 (IntKind.u16.wrap (x45.2.2.2.1 + 1)) x45.2.1 x45.2.2.1 x45.2.2.2.1 x45.2.2.2.2 x44
                  (!x51))
                else
                  (false)))
            else
              (let x52 := F_law12_awake
              bif x52 then
                (let x53 := F_gen_Max p11
                let x54 := F_gen_Accum p0 p1 p2 p3 p4 p10 x53
                let x55 := F_gen_Back p5 p6 p7 p8 p9 x53
                let x56 := F_group_Valid x54.1 x54.2.1 x54.2.2.1 x54.2.2.2.1 x54.2.2.2.2.1 x54.2.2.2.2.2 x55.1 x55.2.1 x55.2.2.1 x55.2.2.2.1 x55.2.2.2.2 254
                (!x56))
              else
                (false)))))) :=
  spellV (L := L_law12_GroupValidNeedsEachField) (fun l => tru ((l).getD 0 undef)) (evF Tryd.prog [S_gen_Mod, S_gen_Max, S_gen_Back, S_gen_Accum, S_group_Valid, S_law12_awake] 1000 4 (inL A_law12_GroupValidNeedsEachField [.int .i64 p0, .int .i64 p1, .int .i64 p2, .int .i64 p3, .int .i64 p4, .int .i64 p5, .int .i64 p6, .int .i64 p7, .int .i64 p8, .int .i64 p9, .int .i64 p10, .int .i64 p11, .int .i64 p12])) (L_law12_GroupValidNeedsEachField_is _) (by kernel_rfl)

/-! compositor/compositorlaw12.GroupStepAgrees -/
def A_law12_GroupStepAgrees : List PS := [.c (.b), .c (.i .i64), .c (.i .i64), .agg [.i .i64, .i .i64, .i .i64, .i .i64, .i .i64], .agg [.i .i64, .i .i64, .i .i64, .i .i64, .i .i64], .agg [.i .i64, .i .i64, .i .i64, .i .i64, .i .i64], .c (.i .i64), .c (.i .i64)]
def R_law12_GroupStepAgrees : RS := .one (.c (.b))
noncomputable def L_law12_GroupStepAgrees : List Value → List Value := Classical.choose (veil fun vs => (evF Tryd.prog [S_gen_Mod, S_gen_Max, S_gen_Pixel, S_gen_Back, S_gen_Accum, S_group_Step, S_ref06_Step, S_law12_awake] 1000 5 (inL A_law12_GroupStepAgrees vs)).outL)
theorem L_law12_GroupStepAgrees_is (vs : List Value) : L_law12_GroupStepAgrees vs = (evF Tryd.prog [S_gen_Mod, S_gen_Max, S_gen_Pixel, S_gen_Back, S_gen_Accum, S_group_Step, S_ref06_Step, S_law12_awake] 1000 5 (inL A_law12_GroupStepAgrees vs)).outL := Classical.choose_spec (veil fun vs => (evF Tryd.prog [S_gen_Mod, S_gen_Max, S_gen_Pixel, S_gen_Back, S_gen_Accum, S_group_Step, S_ref06_Step, S_law12_awake] 1000 5 (inL A_law12_GroupStepAgrees vs)).outL) vs
noncomputable def S_law12_GroupStepAgrees : Sum := ⟨5, L_law12_GroupStepAgrees, A_law12_GroupStepAgrees, R_law12_GroupStepAgrees⟩
theorem ok_law12_GroupStepAgrees : SumOK Tryd.prog InvN S_law12_GroupStepAgrees := sumOK_evV invN_stays (allOK_cons ok_gen_Mod.any (allOK_cons ok_gen_Max.any (allOK_cons ok_gen_Pixel (allOK_cons ok_gen_Back (allOK_cons ok_gen_Accum (allOK_cons ok_group_Step (allOK_cons ok_ref06_Step (allOK_cons ok_law12_awake allOK_nil)))))))) 1000 5 A_law12_GroupStepAgrees R_law12_GroupStepAgrees L_law12_GroupStepAgrees_is (fun _ => by kernel_rfl)
noncomputable def F_law12_GroupStepAgrees (p0 : Bool) (p1 : Int) (p2 : Int) (p3 : Int) (p4 : Int) (p5 : Int) (p6 : Int) (p7 : Int) (p8 : Int) (p9 : Int) (p10 : Int) (p11 : Int) (p12 : Int) (p13 : Int) (p14 : Int) (p15 : Int) (p16 : Int) (p17 : Int) (p18 : Int) (p19 : Int) : Bool := tru ((L_law12_GroupStepAgrees [.bool p0, .int .i64 p1, .int .i64 p2, .int .i64 p3, .int .i64 p4, .int .i64 p5, .int .i64 p6, .int .i64 p7, .int .i64 p8, .int .i64 p9, .int .i64 p10, .int .i64 p11, .int .i64 p12, .int .i64 p13, .int .i64 p14, .int .i64 p15, .int .i64 p16, .int .i64 p17, .int .i64 p18, .int .i64 p19]).getD 0 undef)
theorem F_law12_GroupStepAgrees_eq (p0 : Bool) (p1 : Int) (p2 : Int) (p3 : Int) (p4 : Int) (p5 : Int) (p6 : Int) (p7 : Int) (p8 : Int) (p9 : Int) (p10 : Int) (p11 : Int) (p12 : Int) (p13 : Int) (p14 : Int) (p15 : Int) (p16 : Int) (p17 : Int) (p18 : Int) (p19 : Int) : F_law12_GroupStepAgrees p0 p1 p2 p3 p4 p5 p6 p7 p8 p9 p10 p11 p12 p13 p14 p15 p16 p17 p18 p19 =
    let x0 := F_gen_Mod (IntKind.i64.wrap (Int.tdiv p1 14)) 2
    bif (x0 == 0) then
      (let x1 := F_law12_awake
      bif x1 then
        (let x2 := F_gen_Mod p2 14
        let x3 := F_gen_Max p19
        let x4 := F_gen_Pixel p3 p4 p5 p6 p7 x3
        let x5 := F_gen_Accum p8 p9 p10 p11 p12 p18 x3
        let x6 := F_gen_Back p13 p14 p15 p16 p17 x3
        let x7 := F_group_Step p0 4 x2 x3 x4.1 x4.2.1 x4.2.2.1 x4.2.2.2.1 x4.2.2.2.2 x5.1 x5.2.1 x5.2.2.1 x5.2.2.2.1 x5.2.2.2.2.1 x5.2.2.2.2.2 x6.1 x6.2.1 x6.2.2.1 x6.2.2.2.1 x6.2.2.2.2
        let x8 := F_ref06_Step p0 4 x2 x3 x4.1 x4.2.1 x4.2.2.1 x4.2.2.2.1 x4.2.2.2.2 x5.1 x5.2.1 x5.2.2.1 x5.2.2.2.1 x5.2.2.2.2.1 x5.2.2.2.2.2 x6.1 x6.2.1 x6.2.2.1 x6.2.2.2.1 x6.2.2.2.2
        bif (((x7.1 == x8.1) && ((x7.2.1 == x8.2.1) && (x7.2.2.1 == x8.2.2.1))) && ((x7.2.2.2.1 == x8.2.2.2.1) && ((x7.2.2.2.2.1 == x8.2.2.2.2.1) && (x7.2.2.2.2.2.1 == x8.2.2.2.2.2.1)))) then
          ((x7.2.2.2.2.2.2 == x8.2.2.2.2.2.2))
        else
          (false))
      else
        (false))
    else
      (let x9 := F_law12_awake
      bif x9 then
        (let x10 := F_gen_Mod p1 14
        let x11 := F_gen_Mod p2 14
        let x12 := F_gen_Max p19
        let x13 := F_gen_Pixel p3 p4 p5 p6 p7 x12
        let x14 := F_gen_Accum p8 p9 p10 p11 p12 p18 x12
        let x15 := F_gen_Back p13 p14 p15 p16 p17 x12
        let x16 := F_group_Step p0 x10 x11 x12 x13.1 x13.2.1 x13.2.2.1 x13.2.2.2.1 x13.2.2.2.2 x14.1 x14.2.1 x14.2.2.1 x14.2.2.2.1 x14.2.2.2.2.1 x14.2.2.2.2.2 x15.1 x15.2.1 x15.2.2.1 x15.2.2.2.1 x15.2.2.2.2
        let x17 := F_ref06_Step p0 x10 x11 x12 x13.1 x13.2.1 x13.2.2.1 x13.2.2.2.1 x13.2.2.2.2 x14.1 x14.2.1 x14.2.2.1 x14.2.2.2.1 x14.2.2.2.2.1 x14.2.2.2.2.2 x15.1 x15.2.1 x15.2.2.1 x15.2.2.2.1 x15.2.2.2.2
        bif (((x16.1 == x17.1) && ((x16.2.1 == x17.2.1) && (x16.2.2.1 == x17.2.2.1))) && ((x16.2.2.2.1 == x17.2.2.2.1) && ((x16.2.2.2.2.1 == x17.2.2.2.2.1) && (x16.2.2.2.2.2.1 == x17.2.2.2.2.2.1)))) then
          ((x16.2.2.2.2.2.2 == x17.2.2.2.2.2.2))
        else
          (false))
      else
        (false)) :=
  spellV (L := L_law12_GroupStepAgrees) (fun l => tru ((l).getD 0 undef)) (evF Tryd.prog [S_gen_Mod, S_gen_Max, S_gen_Pixel, S_gen_Back, S_gen_Accum, S_group_Step, S_ref06_Step, S_law12_awake] 1000 5 (inL A_law12_GroupStepAgrees [.bool p0, .int .i64 p1, .int .i64 p2, .int .i64 p3, .int .i64 p4, .int .i64 p5, .int .i64 p6, .int .i64 p7, .int .i64 p8, .int .i64 p9, .int .i64 p10, .int .i64 p11, .int .i64 p12, .int .i64 p13, .int .i64 p14, .int .i64 p15, .int .i64 p16, .int .i64 p17, .int .i64 p18, .int .i64 p19])) (L_law12_GroupStepAgrees_is _) (by kernel_rfl)

/-! compositor/compositorlaw12.GroupRejects -/
def A_law12_GroupRejects : List PS := [.c (.b), .c (.i .i64), .c (.i .i64), .agg [.i .u16, .i .u16, .i .u16, .i .u16, .i .u16], .agg [.i .u16, .i .u16, .i .u16, .i .u16, .i .u16, .i .u16], .agg [.i .u16, .i .u16, .i .u16, .i .u16, .i .u16], .c (.i .u16), .agg [.i .i64, .i .i64, .i .i64, .i .i64, .i .i64], .c (.i .i64)]
def R_law12_GroupRejects : RS := .one (.c (.b))
noncomputable def L_law12_GroupRejects : List Value → List Value := Classical.choose (veil fun vs => (evF Tryd.prog [S_gen_Mod, S_gen_Max, S_gen_Accum, S_group_Step, S_group_Result, S_ref06_Step, S_ref06_Result, S_law12_awake] 1000 6 (inL A_law12_GroupRejects vs)).outL)
theorem L_law12_GroupRejects_is (vs : List Value) : L_law12_GroupRejects vs = (evF Tryd.prog [S_gen_Mod, S_gen_Max, S_gen_Accum, S_group_Step, S_group_Result, S_ref06_Step, S_ref06_Result, S_law12_awake] 1000 6 (inL A_law12_GroupRejects vs)).outL := Classical.choose_spec (veil fun vs => (evF Tryd.prog [S_gen_Mod, S_gen_Max, S_gen_Accum, S_group_Step, S_group_Result, S_ref06_Step, S_ref06_Result, S_law12_awake] 1000 6 (inL A_law12_GroupRejects vs)).outL) vs
noncomputable def S_law12_GroupRejects : Sum := ⟨6, L_law12_GroupRejects, A_law12_GroupRejects, R_law12_GroupRejects⟩
theorem ok_law12_GroupRejects : SumOK Tryd.prog InvN S_law12_GroupRejects := sumOK_evV invN_stays (allOK_cons ok_gen_Mod.any (allOK_cons ok_gen_Max.any (allOK_cons ok_gen_Accum (allOK_cons ok_group_Step (allOK_cons ok_group_Result (allOK_cons ok_ref06_Step (allOK_cons ok_ref06_Result (allOK_cons ok_law12_awake allOK_nil)))))))) 1000 6 A_law12_GroupRejects R_law12_GroupRejects L_law12_GroupRejects_is (fun _ => by kernel_rfl)
noncomputable def F_law12_GroupRejects (p0 : Bool) (p1 : Int) (p2 : Int) (p3 : Int) (p4 : Int) (p5 : Int) (p6 : Int) (p7 : Int) (p8 : Int) (p9 : Int) (p10 : Int) (p11 : Int) (p12 : Int) (p13 : Int) (p14 : Int) (p15 : Int) (p16 : Int) (p17 : Int) (p18 : Int) (p19 : Int) (p20 : Int) (p21 : Int) (p22 : Int) (p23 : Int) (p24 : Int) (p25 : Int) : Bool := tru ((L_law12_GroupRejects [.bool p0, .int .i64 p1, .int .i64 p2, .int .u16 p3, .int .u16 p4, .int .u16 p5, .int .u16 p6, .int .u16 p7, .int .u16 p8, .int .u16 p9, .int .u16 p10, .int .u16 p11, .int .u16 p12, .int .u16 p13, .int .u16 p14, .int .u16 p15, .int .u16 p16, .int .u16 p17, .int .u16 p18, .int .u16 p19, .int .i64 p20, .int .i64 p21, .int .i64 p22, .int .i64 p23, .int .i64 p24, .int .i64 p25]).getD 0 undef)
theorem F_law12_GroupRejects_eq (p0 : Bool) (p1 : Int) (p2 : Int) (p3 : Int) (p4 : Int) (p5 : Int) (p6 : Int) (p7 : Int) (p8 : Int) (p9 : Int) (p10 : Int) (p11 : Int) (p12 : Int) (p13 : Int) (p14 : Int) (p15 : Int) (p16 : Int) (p17 : Int) (p18 : Int) (p19 : Int) (p20 : Int) (p21 : Int) (p22 : Int) (p23 : Int) (p24 : Int) (p25 : Int) : F_law12_GroupRejects p0 p1 p2 p3 p4 p5 p6 p7 p8 p9 p10 p11 p12 p13 p14 p15 p16 p17 p18 p19 p20 p21 p22 p23 p24 p25 =
    let x0 := F_law12_awake
    bif x0 then
      (let x1 := F_gen_Mod p1 14
      let x2 := F_gen_Mod p2 14
      let x3 := F_group_Step p0 x1 x2 p19 p3 p4 p5 p6 p7 p8 p9 p10 p11 p12 p13 p14 p15 p16 p17 p18
      let x4 := F_ref06_Step p0 x1 x2 p19 p3 p4 p5 p6 p7 p8 p9 p10 p11 p12 p13 p14 p15 p16 p17 p18
      bif (((x3.1 == x4.1) && ((x3.2.1 == x4.2.1) && (x3.2.2.1 == x4.2.2.1))) && ((x3.2.2.2.1 == x4.2.2.2.1) && ((x3.2.2.2.2.1 == x4.2.2.2.2.1) && (x3.2.2.2.2.2.1 == x4.2.2.2.2.2.1)))) then
        (bif (x3.2.2.2.2.2.2 == x4.2.2.2.2.2.2) then
          (let x5 := F_group_Result p8 p9 p10 p11 p12 p13 p14 p15 p16 p17 p18 p19
          let x6 := F_ref06_Result p8 p9 p10 p11 p12 p13 p14 p15 p16 p17 p18 p19
          bif (((x5.1 == x6.1) && ((x5.2.1 == x6.2.1) && (x5.2.2.1 == x6.2.2.1))) && ((x5.2.2.2.1 == x6.2.2.2.1) && (x5.2.2.2.2.1 == x6.2.2.2.2.1))) then
            (bif (x5.2.2.2.2.2 == x6.2.2.2.2.2) then
              (let x7 := F_gen_Max p19
              let x8 := F_gen_Accum p20 p21 p22 p23 p24 p25 x7
              let x9 := F_group_Step p0 x1 x2 x7 p3 p4 p5 p6 p7 x8.1 x8.2.1 x8.2.2.1 x8.2.2.2.1 x8.2.2.2.2.1 x8.2.2.2.2.2 p14 p15 p16 p17 p18
              let x10 := F_ref06_Step p0 x1 x2 x7 p3 p4 p5 p6 p7 x8.1 x8.2.1 x8.2.2.1 x8.2.2.2.1 x8.2.2.2.2.1 x8.2.2.2.2.2 p14 p15 p16 p17 p18
              bif (((x9.1 == x10.1) && ((x9.2.1 == x10.2.1) && (x9.2.2.1 == x10.2.2.1))) && ((x9.2.2.2.1 == x10.2.2.2.1) && ((x9.2.2.2.2.1 == x10.2.2.2.2.1) && (x9.2.2.2.2.2.1 == x10.2.2.2.2.2.1)))) then
                ((x9.2.2.2.2.2.2 == x10.2.2.2.2.2.2))
              else
                (false))
            else
              (false))
          else
            (false))
        else
          (false))
      else
        (false))
    else
      (false) :=
  spellV (L := L_law12_GroupRejects) (fun l => tru ((l).getD 0 undef)) (evF Tryd.prog [S_gen_Mod, S_gen_Max, S_gen_Accum, S_group_Step, S_group_Result, S_ref06_Step, S_ref06_Result, S_law12_awake] 1000 6 (inL A_law12_GroupRejects [.bool p0, .int .i64 p1, .int .i64 p2, .int .u16 p3, .int .u16 p4, .int .u16 p5, .int .u16 p6, .int .u16 p7, .int .u16 p8, .int .u16 p9, .int .u16 p10, .int .u16 p11, .int .u16 p12, .int .u16 p13, .int .u16 p14, .int .u16 p15, .int .u16 p16, .int .u16 p17, .int .u16 p18, .int .u16 p19, .int .i64 p20, .int .i64 p21, .int .i64 p22, .int .i64 p23, .int .i64 p24, .int .i64 p25])) (L_law12_GroupRejects_is _) (by kernel_rfl)

/-! compositor/compositorlaw12.GroupResultAgrees -/
def A_law12_GroupResultAgrees : List PS := [.agg [.i .i64, .i .i64, .i .i64, .i .i64, .i .i64], .agg [.i .i64, .i .i64, .i .i64, .i .i64, .i .i64], .c (.i .i64), .c (.i .i64)]
def R_law12_GroupResultAgrees : RS := .one (.c (.b))
noncomputable def L_law12_GroupResultAgrees : List Value → List Value := Classical.choose (veil fun vs => (evF Tryd.prog [S_gen_Max, S_ref01_ValidPixel, S_gen_Back, S_gen_Accum, S_group_Result, S_ref06_Result, S_law12_awake] 1000 7 (inL A_law12_GroupResultAgrees vs)).outL)
theorem L_law12_GroupResultAgrees_is (vs : List Value) : L_law12_GroupResultAgrees vs = (evF Tryd.prog [S_gen_Max, S_ref01_ValidPixel, S_gen_Back, S_gen_Accum, S_group_Result, S_ref06_Result, S_law12_awake] 1000 7 (inL A_law12_GroupResultAgrees vs)).outL := Classical.choose_spec (veil fun vs => (evF Tryd.prog [S_gen_Max, S_ref01_ValidPixel, S_gen_Back, S_gen_Accum, S_group_Result, S_ref06_Result, S_law12_awake] 1000 7 (inL A_law12_GroupResultAgrees vs)).outL) vs
noncomputable def S_law12_GroupResultAgrees : Sum := ⟨7, L_law12_GroupResultAgrees, A_law12_GroupResultAgrees, R_law12_GroupResultAgrees⟩
theorem ok_law12_GroupResultAgrees : SumOK Tryd.prog InvN S_law12_GroupResultAgrees := sumOK_evV invN_stays (allOK_cons ok_gen_Max.any (allOK_cons ok_ref01_ValidPixel (allOK_cons ok_gen_Back (allOK_cons ok_gen_Accum (allOK_cons ok_group_Result (allOK_cons ok_ref06_Result (allOK_cons ok_law12_awake allOK_nil))))))) 1000 7 A_law12_GroupResultAgrees R_law12_GroupResultAgrees L_law12_GroupResultAgrees_is (fun _ => by kernel_rfl)
noncomputable def F_law12_GroupResultAgrees (p0 : Int) (p1 : Int) (p2 : Int) (p3 : Int) (p4 : Int) (p5 : Int) (p6 : Int) (p7 : Int) (p8 : Int) (p9 : Int) (p10 : Int) (p11 : Int) : Bool := tru ((L_law12_GroupResultAgrees [.int .i64 p0, .int .i64 p1, .int .i64 p2, .int .i64 p3, .int .i64 p4, .int .i64 p5, .int .i64 p6, .int .i64 p7, .int .i64 p8, .int .i64 p9, .int .i64 p10, .int .i64 p11]).getD 0 undef)
theorem F_law12_GroupResultAgrees_eq (p0 : Int) (p1 : Int) (p2 : Int) (p3 : Int) (p4 : Int) (p5 : Int) (p6 : Int) (p7 : Int) (p8 : Int) (p9 : Int) (p10 : Int) (p11 : Int) : F_law12_GroupResultAgrees p0 p1 p2 p3 p4 p5 p6 p7 p8 p9 p10 p11 =
    let x0 := F_law12_awake
    bif x0 then
      (let x1 := F_gen_Max p11
      let x2 := F_gen_Accum p0 p1 p2 p3 p4 p10 x1
      let x3 := F_gen_Back p5 p6 p7 p8 p9 x1
      let x4 := F_group_Result x2.1 x2.2.1 x2.2.2.1 x2.2.2.2.1 x2.2.2.2.2.1 x2.2.2.2.2.2 x3.1 x3.2.1 x3.2.2.1 x3.2.2.2.1 x3.2.2.2.2 x1
      bif x4.2.2.2.2.2 then
        (let x5 := F_ref06_Result x2.1 x2.2.1 x2.2.2.1 x2.2.2.2.1 x2.2.2.2.2.1 x2.2.2.2.2.2 x3.1 x3.2.1 x3.2.2.1 x3.2.2.2.1 x3.2.2.2.2 x1
        bif x5.2.2.2.2.2 then
          (bif (((x4.1 == x5.1) && ((x4.2.1 == x5.2.1) && (x4.2.2.1 == x5.2.2.1))) && ((x4.2.2.2.1 == x5.2.2.2.1) && (x4.2.2.2.2.1 == x5.2.2.2.2.1))) then
            (let x6 := F_ref01_ValidPixel x4.1 x4.2.1 x4.2.2.1 x4.2.2.2.1 x4.2.2.2.2.1 x1
            x6)
          else
            (false))
        else
          (false))
      else
        (false))
    else
      (false) :=
  spellV (L := L_law12_GroupResultAgrees) (fun l => tru ((l).getD 0 undef)) (evF Tryd.prog [S_gen_Max, S_ref01_ValidPixel, S_gen_Back, S_gen_Accum, S_group_Result, S_ref06_Result, S_law12_awake] 1000 7 (inL A_law12_GroupResultAgrees [.int .i64 p0, .int .i64 p1, .int .i64 p2, .int .i64 p3, .int .i64 p4, .int .i64 p5, .int .i64 p6, .int .i64 p7, .int .i64 p8, .int .i64 p9, .int .i64 p10, .int .i64 p11])) (L_law12_GroupResultAgrees_is _) (by kernel_rfl)

/-! compositor/compositorlaw12.GroupEmptyIsTransparent -/
def A_law12_GroupEmptyIsTransparent : List PS := [.c (.b), .c (.b), .agg [.i .i64, .i .i64, .i .i64, .i .i64, .i .i64], .agg [.i .i64, .i .i64, .i .i64, .i .i64, .i .i64], .c (.i .i64), .c (.i .i64)]
def R_law12_GroupEmptyIsTransparent : RS := .one (.c (.b))
noncomputable def L_law12_GroupEmptyIsTransparent : List Value → List Value := Classical.choose (veil fun vs => (evF Tryd.prog [S_gen_Max, S_gen_Back, S_gen_Accum, S_group_Begin, S_group_Result, S_law12_awake] 1000 9 (inL A_law12_GroupEmptyIsTransparent vs)).outL)
theorem L_law12_GroupEmptyIsTransparent_is (vs : List Value) : L_law12_GroupEmptyIsTransparent vs = (evF Tryd.prog [S_gen_Max, S_gen_Back, S_gen_Accum, S_group_Begin, S_group_Result, S_law12_awake] 1000 9 (inL A_law12_GroupEmptyIsTransparent vs)).outL := Classical.choose_spec (veil fun vs => (evF Tryd.prog [S_gen_Max, S_gen_Back, S_gen_Accum, S_group_Begin, S_group_Result, S_law12_awake] 1000 9 (inL A_law12_GroupEmptyIsTransparent vs)).outL) vs
noncomputable def S_law12_GroupEmptyIsTransparent : Sum := ⟨9, L_law12_GroupEmptyIsTransparent, A_law12_GroupEmptyIsTransparent, R_law12_GroupEmptyIsTransparent⟩
theorem ok_law12_GroupEmptyIsTransparent : SumOK Tryd.prog InvN S_law12_GroupEmptyIsTransparent := sumOK_evV invN_stays (allOK_cons ok_gen_Max.any (allOK_cons ok_gen_Back (allOK_cons ok_gen_Accum (allOK_cons ok_group_Begin (allOK_cons ok_group_Result (allOK_cons ok_law12_awake allOK_nil)))))) 1000 9 A_law12_GroupEmptyIsTransparent R_law12_GroupEmptyIsTransparent L_law12_GroupEmptyIsTransparent_is (fun _ => by kernel_rfl)
noncomputable def F_law12_GroupEmptyIsTransparent (p0 : Bool) (p1 : Bool) (p2 : Int) (p3 : Int) (p4 : Int) (p5 : Int) (p6 : Int) (p7 : Int) (p8 : Int) (p9 : Int) (p10 : Int) (p11 : Int) (p12 : Int) (p13 : Int) : Bool := tru ((L_law12_GroupEmptyIsTransparent [.bool p0, .bool p1, .int .i64 p2, .int .i64 p3, .int .i64 p4, .int .i64 p5, .int .i64 p6, .int .i64 p7, .int .i64 p8, .int .i64 p9, .int .i64 p10, .int .i64 p11, .int .i64 p12, .int .i64 p13]).getD 0 undef)
theorem F_law12_GroupEmptyIsTransparent_eq (p0 : Bool) (p1 : Bool) (p2 : Int) (p3 : Int) (p4 : Int) (p5 : Int) (p6 : Int) (p7 : Int) (p8 : Int) (p9 : Int) (p10 : Int) (p11 : Int) (p12 : Int) (p13 : Int) : F_law12_GroupEmptyIsTransparent p0 p1 p2 p3 p4 p5 p6 p7 p8 p9 p10 p11 p12 p13 =
    let x0 := F_law12_awake
    bif x0 then
      (let x1 := F_gen_Max p13
      let x2 := F_gen_Accum p2 p3 p4 p5 p6 p12 x1
      let x3 := F_gen_Back p7 p8 p9 p10 p11 x1
      let x4 := F_group_Begin p0 p1 x2.1 x2.2.1 x2.2.2.1 x2.2.2.2.1 x2.2.2.2.2.1 x2.2.2.2.2.2 x3.1 x3.2.1 x3.2.2.1 x3.2.2.2.1 x3.2.2.2.2
      let x5 := F_group_Result x4.1 x4.2.1 x4.2.2.1 x4.2.2.2.1 x4.2.2.2.2.1 x4.2.2.2.2.2.1 x4.2.2.2.2.2.2.1 x4.2.2.2.2.2.2.2.1 x4.2.2.2.2.2.2.2.2.1 x4.2.2.2.2.2.2.2.2.2.1 x4.2.2.2.2.2.2.2.2.2.2 x1
      bif x5.2.2.2.2.2 then
        ((((x5.1 == 0) && ((x5.2.1 == 0) && (x5.2.2.1 == 0))) && ((x5.2.2.2.1 == 0) && (x5.2.2.2.2.1 == 0))))
      else
        (false))
    else
      (false) :=
  spellV (L := L_law12_GroupEmptyIsTransparent) (fun l => tru ((l).getD 0 undef)) (evF Tryd.prog [S_gen_Max, S_gen_Back, S_gen_Accum, S_group_Begin, S_group_Result, S_law12_awake] 1000 9 (inL A_law12_GroupEmptyIsTransparent [.bool p0, .bool p1, .int .i64 p2, .int .i64 p3, .int .i64 p4, .int .i64 p5, .int .i64 p6, .int .i64 p7, .int .i64 p8, .int .i64 p9, .int .i64 p10, .int .i64 p11, .int .i64 p12, .int .i64 p13])) (L_law12_GroupEmptyIsTransparent_is _) (by kernel_rfl)

/-! compositor/compositorlaw12.GroupOfOneNormalElement -/
def A_law12_GroupOfOneNormalElement : List PS := [.c (.b), .c (.b), .c (.b), .agg [.i .i64, .i .i64, .i .i64, .i .i64, .i .i64], .agg [.i .i64, .i .i64, .i .i64, .i .i64, .i .i64], .agg [.i .i64, .i .i64, .i .i64, .i .i64, .i .i64], .c (.i .i64), .c (.i .i64)]
def R_law12_GroupOfOneNormalElement : RS := .one (.c (.b))
noncomputable def L_law12_GroupOfOneNormalElement : List Value → List Value := Classical.choose (veil fun vs => (evF Tryd.prog [S_gen_Max, S_gen_Pixel, S_gen_Back, S_gen_Accum, S_group_Begin, S_group_Step, S_group_Result, S_law12_awake] 1000 10 (inL A_law12_GroupOfOneNormalElement vs)).outL)
theorem L_law12_GroupOfOneNormalElement_is (vs : List Value) : L_law12_GroupOfOneNormalElement vs = (evF Tryd.prog [S_gen_Max, S_gen_Pixel, S_gen_Back, S_gen_Accum, S_group_Begin, S_group_Step, S_group_Result, S_law12_awake] 1000 10 (inL A_law12_GroupOfOneNormalElement vs)).outL := Classical.choose_spec (veil fun vs => (evF Tryd.prog [S_gen_Max, S_gen_Pixel, S_gen_Back, S_gen_Accum, S_group_Begin, S_group_Step, S_group_Result, S_law12_awake] 1000 10 (inL A_law12_GroupOfOneNormalElement vs)).outL) vs
noncomputable def S_law12_GroupOfOneNormalElement : Sum := ⟨10, L_law12_GroupOfOneNormalElement, A_law12_GroupOfOneNormalElement, R_law12_GroupOfOneNormalElement⟩
theorem ok_law12_GroupOfOneNormalElement : SumOK Tryd.prog InvN S_law12_GroupOfOneNormalElement := sumOK_evV invN_stays (allOK_cons ok_gen_Max.any (allOK_cons ok_gen_Pixel (allOK_cons ok_gen_Back (allOK_cons ok_gen_Accum (allOK_cons ok_group_Begin (allOK_cons ok_group_Step (allOK_cons ok_group_Result (allOK_cons ok_law12_awake allOK_nil)))))))) 1000 10 A_law12_GroupOfOneNormalElement R_law12_GroupOfOneNormalElement L_law12_GroupOfOneNormalElement_is (fun _ => by kernel_rfl)
noncomputable def F_law12_GroupOfOneNormalElement (p0 : Bool) (p1 : Bool) (p2 : Bool) (p3 : Int) (p4 : Int) (p5 : Int) (p6 : Int) (p7 : Int) (p8 : Int) (p9 : Int) (p10 : Int) (p11 : Int) (p12 : Int) (p13 : Int) (p14 : Int) (p15 : Int) (p16 : Int) (p17 : Int) (p18 : Int) (p19 : Int) : Bool := tru ((L_law12_GroupOfOneNormalElement [.bool p0, .bool p1, .bool p2, .int .i64 p3, .int .i64 p4, .int .i64 p5, .int .i64 p6, .int .i64 p7, .int .i64 p8, .int .i64 p9, .int .i64 p10, .int .i64 p11, .int .i64 p12, .int .i64 p13, .int .i64 p14, .int .i64 p15, .int .i64 p16, .int .i64 p17, .int .i64 p18, .int .i64 p19]).getD 0 undef)
theorem F_law12_GroupOfOneNormalElement_eq (p0 : Bool) (p1 : Bool) (p2 : Bool) (p3 : Int) (p4 : Int) (p5 : Int) (p6 : Int) (p7 : Int) (p8 : Int) (p9 : Int) (p10 : Int) (p11 : Int) (p12 : Int) (p13 : Int) (p14 : Int) (p15 : Int) (p16 : Int) (p17 : Int) (p18 : Int) (p19 : Int) : F_law12_GroupOfOneNormalElement p0 p1 p2 p3 p4 p5 p6 p7 p8 p9 p10 p11 p12 p13 p14 p15 p16 p17 p18 p19 =
    let x0 := F_law12_awake
    bif x0 then
      (let x1 := F_gen_Max p19
      let x2 := F_gen_Pixel p3 p4 p5 p6 p7 x1
      let x3 := F_gen_Accum p8 p9 p10 p11 p12 p18 x1
      let x4 := F_gen_Back p13 p14 p15 p16 p17 x1
      let x5 := F_group_Begin p0 p1 x3.1 x3.2.1 x3.2.2.1 x3.2.2.2.1 x3.2.2.2.2.1 x3.2.2.2.2.2 x4.1 x4.2.1 x4.2.2.1 x4.2.2.2.1 x4.2.2.2.2
      let x6 := F_group_Step p2 4 1 x1 x2.1 x2.2.1 x2.2.2.1 x2.2.2.2.1 x2.2.2.2.2 x5.1 x5.2.1 x5.2.2.1 x5.2.2.2.1 x5.2.2.2.2.1 x5.2.2.2.2.2.1 x5.2.2.2.2.2.2.1 x5.2.2.2.2.2.2.2.1 x5.2.2.2.2.2.2.2.2.1 x5.2.2.2.2.2.2.2.2.2.1 x5.2.2.2.2.2.2.2.2.2.2
      bif x6.2.2.2.2.2.2 then
        (let x7 := F_group_Result x6.1 x6.2.1 x6.2.2.1 x6.2.2.2.1 x6.2.2.2.2.1 x6.2.2.2.2.2.1 x5.2.2.2.2.2.2.1 x5.2.2.2.2.2.2.2.1 x5.2.2.2.2.2.2.2.2.1 x5.2.2.2.2.2.2.2.2.2.1 x5.2.2.2.2.2.2.2.2.2.2 x1
        bif x7.2.2.2.2.2 then
          ((((x7.1 == x2.1) && ((x7.2.1 == x2.2.1) && (x7.2.2.1 == x2.2.2.1))) && ((x7.2.2.2.1 == x2.2.2.2.1) && (x7.2.2.2.2.1 == x2.2.2.2.2))))
        else
          (false))
      else
        (false))
    else
      (false) :=
  spellV (L := L_law12_GroupOfOneNormalElement) (fun l => tru ((l).getD 0 undef)) (evF Tryd.prog [S_gen_Max, S_gen_Pixel, S_gen_Back, S_gen_Accum, S_group_Begin, S_group_Step, S_group_Result, S_law12_awake] 1000 10 (inL A_law12_GroupOfOneNormalElement [.bool p0, .bool p1, .bool p2, .int .i64 p3, .int .i64 p4, .int .i64 p5, .int .i64 p6, .int .i64 p7, .int .i64 p8, .int .i64 p9, .int .i64 p10, .int .i64 p11, .int .i64 p12, .int .i64 p13, .int .i64 p14, .int .i64 p15, .int .i64 p16, .int .i64 p17, .int .i64 p18, .int .i64 p19])) (L_law12_GroupOfOneNormalElement_is _) (by kernel_rfl)
end Go.Proofs.YtjgmipklbpghfaaDoor
