/- The statements of chapter 03, their checks Printed by a program (gen/Gen.lean); what each function does is told by the evaluator, and the kernel checks it. No condition. -/
import Derived.Test.YtjgbkjkckhaheaaFloorE
import Derived.KernelRfl
namespace Go.Proofs.Ytjgbkjkckhaheaa
open Go.RowKit

/-! compositor/compositorref01.HalfExact -/
def A_ref01_HalfExact : List PS := [.agg [.i .u64, .i .u64, .i .u64, .i .u64, .i .u64]]
def R_ref01_HalfExact : RS := .tup [.c (.i .u64), .c (.b)]
noncomputable def L_ref01_HalfExact (vs : List Value) : List Value := (evF Try.prog [S_ref01_times, S_ref01_FloorExact] 1000 43 (inL A_ref01_HalfExact vs)).outL
noncomputable def S_ref01_HalfExact : Sum := ⟨43, L_ref01_HalfExact, A_ref01_HalfExact, R_ref01_HalfExact⟩
theorem ok_ref01_HalfExact : SumOK Try.prog Inv S_ref01_HalfExact := sumOK_ev inv_stays (allOK_cons ok_ref01_times (allOK_cons ok_ref01_FloorExact allOK_nil)) 1000 43 A_ref01_HalfExact R_ref01_HalfExact (fun _ => by kernel_rfl)
noncomputable def F_ref01_HalfExact (p0 : Int) (p1 : Int) (p2 : Int) (p3 : Int) (p4 : Int) : Int × Bool := (num ((L_ref01_HalfExact [.int .u64 p0, .int .u64 p1, .int .u64 p2, .int .u64 p3, .int .u64 p4]).getD 0 undef), tru ((L_ref01_HalfExact [.int .u64 p0, .int .u64 p1, .int .u64 p2, .int .u64 p3, .int .u64 p4]).getD 1 undef))
theorem F_ref01_HalfExact_eq (p0 : Int) (p1 : Int) (p2 : Int) (p3 : Int) (p4 : Int) : F_ref01_HalfExact p0 p1 p2 p3 p4 =
    let x0 := F_ref01_FloorExact p0 p1 p2 p3 p4
    bif (!x0.2) then
      ((0, false))
    else
      (let x1 := F_ref01_times p0 p1 p2 p3 p4 true (IntKind.u64.wrap ((IntKind.u64.wrap (2 * x0.1)) + 1))
      bif (decide (x1 ≥ 0)) then
        (bif (decide ((IntKind.u64.wrap (x0.1 + 1)) ≥ 9223372036854775808)) then
          ((0, false))
        else
          (((IntKind.u64.wrap (x0.1 + 1)), true)))
      else
        (bif (decide (x0.1 ≥ 9223372036854775808)) then
          ((0, false))
        else
          ((x0.1, true)))) :=
  spell (fun l => (num ((l).getD 0 undef), tru ((l).getD 1 undef))) (evF Try.prog [S_ref01_times, S_ref01_FloorExact] 1000 43 (inL A_ref01_HalfExact [.int .u64 p0, .int .u64 p1, .int .u64 p2, .int .u64 p3, .int .u64 p4])) (by kernel_rfl) (by kernel_rfl)

/-! compositor/compositorlaw03.awake -/
def A_law03_awake : List PS := []
def R_law03_awake : RS := .one (.c (.b))
noncomputable def L_law03_awake (vs : List Value) : List Value := (evF Try.prog [S_surd_Compare, S_surd_Half] 1000 35 (inL A_law03_awake vs)).outL
noncomputable def S_law03_awake : Sum := ⟨35, L_law03_awake, A_law03_awake, R_law03_awake⟩
theorem ok_law03_awake : SumOK Try.prog Inv S_law03_awake := sumOK_ev inv_stays (allOK_cons ok_surd_Compare (allOK_cons ok_surd_Half allOK_nil)) 1000 35 A_law03_awake R_law03_awake (fun _ => by kernel_rfl)
noncomputable def F_law03_awake : Bool := tru ((L_law03_awake []).getD 0 undef)
theorem F_law03_awake_eq : F_law03_awake =
    let x0 := F_surd_Half 0 0 1 2 1
    bif x0.2 then
      (bif (x0.1 == 1) then
        (let x1 := F_surd_Half 0 1 1 4 2
        bif x1.2 then
          (bif (x1.1 == 2) then
            (let x2 := F_surd_Compare 0 0 2 2 2 1
            bif x2.2 then
              ((x2.1 == 1))
            else
              (false))
          else
            (false))
        else
          (false))
      else
        (false))
    else
      (false) :=
  spell (fun l => tru ((l).getD 0 undef)) (evF Try.prog [S_surd_Compare, S_surd_Half] 1000 35 (inL A_law03_awake [])) (by kernel_rfl) (by kernel_rfl)

/-! compositor/compositorlaw03.SurdValidAgrees -/
def A_law03_SurdValidAgrees : List PS := [.agg [.i .u64, .i .u64, .i .u64, .i .u64, .i .u64], .agg [.i .i64, .i .i64, .i .i64, .i .i64], .c (.i .i64)]
def R_law03_SurdValidAgrees : RS := .one (.c (.b))
noncomputable def L_law03_SurdValidAgrees (vs : List Value) : List Value := (evF Try.prog [S_surd_Valid, S_ref01_ValidExact, S_gen_Mod, S_gen_Exact, S_law03_awake] 1000 9 (inL A_law03_SurdValidAgrees vs)).outL
noncomputable def S_law03_SurdValidAgrees : Sum := ⟨9, L_law03_SurdValidAgrees, A_law03_SurdValidAgrees, R_law03_SurdValidAgrees⟩
theorem ok_law03_SurdValidAgrees : SumOK Try.prog Inv S_law03_SurdValidAgrees := sumOK_ev inv_stays (allOK_cons ok_surd_Valid (allOK_cons ok_ref01_ValidExact (allOK_cons ok_gen_Mod (allOK_cons ok_gen_Exact (allOK_cons ok_law03_awake allOK_nil))))) 1000 9 A_law03_SurdValidAgrees R_law03_SurdValidAgrees (fun _ => by kernel_rfl)
noncomputable def F_law03_SurdValidAgrees (p0 : Int) (p1 : Int) (p2 : Int) (p3 : Int) (p4 : Int) (p5 : Int) (p6 : Int) (p7 : Int) (p8 : Int) (p9 : Int) : Bool := tru ((L_law03_SurdValidAgrees [.int .u64 p0, .int .u64 p1, .int .u64 p2, .int .u64 p3, .int .u64 p4, .int .i64 p5, .int .i64 p6, .int .i64 p7, .int .i64 p8, .int .i64 p9]).getD 0 undef)
theorem F_law03_SurdValidAgrees_eq (p0 : Int) (p1 : Int) (p2 : Int) (p3 : Int) (p4 : Int) (p5 : Int) (p6 : Int) (p7 : Int) (p8 : Int) (p9 : Int) : F_law03_SurdValidAgrees p0 p1 p2 p3 p4 p5 p6 p7 p8 p9 =
    let x0 := F_gen_Mod p9 9
    bif (x0 == 0) then
      (let x1 := F_law03_awake
      bif x1 then
        (let x2 := F_surd_Valid p0 p1 p2 p3 p4
        let x3 := F_ref01_ValidExact p0 p1 p2 p3 p4
        bif (x2 == x3) then
          (let x4 := F_gen_Exact p5 p6 p7 p8
          let x5 := F_surd_Valid 4294967296 x4.2.1 x4.2.2.1 x4.2.2.2.1 x4.2.2.2.2
          let x6 := F_ref01_ValidExact 4294967296 x4.2.1 x4.2.2.1 x4.2.2.2.1 x4.2.2.2.2
          (x5 == x6))
        else
          (false))
      else
        (false))
    else
      (bif (x0 == 1) then
        (let x7 := F_law03_awake
        bif x7 then
          (let x8 := F_surd_Valid p0 p1 p2 p3 p4
          let x9 := F_ref01_ValidExact p0 p1 p2 p3 p4
          bif (x8 == x9) then
            (let x10 := F_gen_Exact p5 p6 p7 p8
            let x11 := F_surd_Valid 4294967295 x10.2.1 x10.2.2.1 x10.2.2.2.1 x10.2.2.2.2
            let x12 := F_ref01_ValidExact 4294967295 x10.2.1 x10.2.2.1 x10.2.2.2.1 x10.2.2.2.2
            (x11 == x12))
          else
            (false))
        else
          (false))
      else
        (bif (x0 == 2) then
          (let x13 := F_law03_awake
          bif x13 then
            (let x14 := F_surd_Valid p0 p1 p2 p3 p4
            let x15 := F_ref01_ValidExact p0 p1 p2 p3 p4
            bif (x14 == x15) then
              (let x16 := F_gen_Exact p5 p6 p7 p8
              let x17 := F_surd_Valid x16.1 x16.2.1 70368744177664 x16.2.2.2.1 x16.2.2.2.2
              let x18 := F_ref01_ValidExact x16.1 x16.2.1 70368744177664 x16.2.2.2.1 x16.2.2.2.2
              (x17 == x18))
            else
              (false))
          else
            (false))
        else
          (bif (x0 == 3) then
            (let x19 := F_law03_awake
            bif x19 then
              (let x20 := F_surd_Valid p0 p1 p2 p3 p4
              let x21 := F_ref01_ValidExact p0 p1 p2 p3 p4
              bif (x20 == x21) then
                (let x22 := F_gen_Exact p5 p6 p7 p8
                let x23 := F_surd_Valid x22.1 x22.2.1 70368744177663 x22.2.2.2.1 x22.2.2.2.2
                let x24 := F_ref01_ValidExact x22.1 x22.2.1 70368744177663 x22.2.2.2.1 x22.2.2.2.2
                (x23 == x24))
              else
                (false))
            else
              (false))
          else
            (bif (x0 == 4) then
              (let x25 := F_law03_awake
              bif x25 then
                (let x26 := F_surd_Valid p0 p1 p2 p3 p4
                let x27 := F_ref01_ValidExact p0 p1 p2 p3 p4
                bif (x26 == x27) then
                  (let x28 := F_gen_Exact p5 p6 p7 p8
                  let x29 := F_surd_Valid x28.1 x28.2.1 x28.2.2.1 8589934592 x28.2.2.2.2
                  let x30 := F_ref01_ValidExact x28.1 x28.2.1 x28.2.2.1 8589934592 x28.2.2.2.2
                  (x29 == x30))
                else
                  (false))
              else
                (false))
            else
              (bif (x0 == 5) then
                (let x31 := F_law03_awake
                bif x31 then
                  (let x32 := F_surd_Valid p0 p1 p2 p3 p4
                  let x33 := F_ref01_ValidExact p0 p1 p2 p3 p4
                  bif (x32 == x33) then
                    (let x34 := F_gen_Exact p5 p6 p7 p8
                    let x35 := F_surd_Valid x34.1 x34.2.1 x34.2.2.1 8589934591 x34.2.2.2.2
                    let x36 := F_ref01_ValidExact x34.1 x34.2.1 x34.2.2.1 8589934591 x34.2.2.2.2
                    (x35 == x36))
                  else
                    (false))
                else
                  (false))
              else
                (bif (x0 == 6) then
                  (let x37 := F_law03_awake
                  bif x37 then
                    (let x38 := F_surd_Valid p0 p1 p2 p3 p4
                    let x39 := F_ref01_ValidExact p0 p1 p2 p3 p4
                    bif (x38 == x39) then
                      (let x40 := F_gen_Exact p5 p6 p7 p8
                      let x41 := F_surd_Valid x40.1 x40.2.1 x40.2.2.1 x40.2.2.2.1 0
                      let x42 := F_ref01_ValidExact x40.1 x40.2.1 x40.2.2.1 x40.2.2.2.1 0
                      (x41 == x42))
                    else
                      (false))
                  else
                    (false))
                else
                  (let x43 := F_law03_awake
                  bif x43 then
                    (let x44 := F_surd_Valid p0 p1 p2 p3 p4
                    let x45 := F_ref01_ValidExact p0 p1 p2 p3 p4
                    bif (x44 == x45) then
                      (let x46 := F_gen_Exact p5 p6 p7 p8
                      let x47 := F_surd_Valid x46.1 x46.2.1 x46.2.2.1 x46.2.2.2.1 x46.2.2.2.2
                      let x48 := F_ref01_ValidExact x46.1 x46.2.1 x46.2.2.1 x46.2.2.2.1 x46.2.2.2.2
                      (x47 == x48))
                    else
                      (false))
                  else
                    (false)))))))) :=
  spell (fun l => tru ((l).getD 0 undef)) (evF Try.prog [S_surd_Valid, S_ref01_ValidExact, S_gen_Mod, S_gen_Exact, S_law03_awake] 1000 9 (inL A_law03_SurdValidAgrees [.int .u64 p0, .int .u64 p1, .int .u64 p2, .int .u64 p3, .int .u64 p4, .int .i64 p5, .int .i64 p6, .int .i64 p7, .int .i64 p8, .int .i64 p9])) (by kernel_rfl) (by kernel_rfl)

/-! compositor/compositorlaw03.SurdCompareAgrees -/
def A_law03_SurdCompareAgrees : List PS := [.agg [.i .u64, .i .u64, .i .u64, .i .u64, .i .u64], .agg [.i .i64, .i .i64, .i .i64, .i .i64], .c (.i .u64)]
def R_law03_SurdCompareAgrees : RS := .one (.c (.b))
noncomputable def L_law03_SurdCompareAgrees (vs : List Value) : List Value := (evF Try.prog [S_surd_Compare, S_ref01_CompareExact, S_ref01_FloorExact, S_gen_Exact, S_law03_awake] 1000 10 (inL A_law03_SurdCompareAgrees vs)).outL
noncomputable def S_law03_SurdCompareAgrees : Sum := ⟨10, L_law03_SurdCompareAgrees, A_law03_SurdCompareAgrees, R_law03_SurdCompareAgrees⟩
theorem ok_law03_SurdCompareAgrees : SumOK Try.prog Inv S_law03_SurdCompareAgrees := sumOK_ev inv_stays (allOK_cons ok_surd_Compare (allOK_cons ok_ref01_CompareExact (allOK_cons ok_ref01_FloorExact (allOK_cons ok_gen_Exact (allOK_cons ok_law03_awake allOK_nil))))) 1000 10 A_law03_SurdCompareAgrees R_law03_SurdCompareAgrees (fun _ => by kernel_rfl)
noncomputable def F_law03_SurdCompareAgrees (p0 : Int) (p1 : Int) (p2 : Int) (p3 : Int) (p4 : Int) (p5 : Int) (p6 : Int) (p7 : Int) (p8 : Int) (p9 : Int) : Bool := tru ((L_law03_SurdCompareAgrees [.int .u64 p0, .int .u64 p1, .int .u64 p2, .int .u64 p3, .int .u64 p4, .int .i64 p5, .int .i64 p6, .int .i64 p7, .int .i64 p8, .int .u64 p9]).getD 0 undef)
theorem F_law03_SurdCompareAgrees_eq (p0 : Int) (p1 : Int) (p2 : Int) (p3 : Int) (p4 : Int) (p5 : Int) (p6 : Int) (p7 : Int) (p8 : Int) (p9 : Int) : F_law03_SurdCompareAgrees p0 p1 p2 p3 p4 p5 p6 p7 p8 p9 =
    let x0 := F_law03_awake
    bif x0 then
      (let x1 := F_gen_Exact p5 p6 p7 p8
      let x2 := F_ref01_FloorExact x1.1 x1.2.1 x1.2.2.1 x1.2.2.2.1 x1.2.2.2.2
      let x3 := F_surd_Compare x1.1 x1.2.1 x1.2.2.1 x1.2.2.2.1 x1.2.2.2.2 (IntKind.u64.wrap (x2.1 + (Int.tmod p9 3)))
      let x4 := F_ref01_CompareExact x1.1 x1.2.1 x1.2.2.1 x1.2.2.2.1 x1.2.2.2.2 (IntKind.u64.wrap (x2.1 + (Int.tmod p9 3)))
      bif (x3.1 == x4.1) then
        (bif (x3.2 == x4.2) then
          (let x5 := F_surd_Compare p0 p1 p2 p3 p4 p9
          let x6 := F_ref01_CompareExact p0 p1 p2 p3 p4 p9
          bif (x5.1 == x6.1) then
            ((x5.2 == x6.2))
          else
            (false))
        else
          (false))
      else
        (false))
    else
      (false) :=
  spell (fun l => tru ((l).getD 0 undef)) (evF Try.prog [S_surd_Compare, S_ref01_CompareExact, S_ref01_FloorExact, S_gen_Exact, S_law03_awake] 1000 10 (inL A_law03_SurdCompareAgrees [.int .u64 p0, .int .u64 p1, .int .u64 p2, .int .u64 p3, .int .u64 p4, .int .i64 p5, .int .i64 p6, .int .i64 p7, .int .i64 p8, .int .u64 p9])) (by kernel_rfl) (by kernel_rfl)

/-! compositor/compositorlaw03.SurdRoundingAgrees -/
def A_law03_SurdRoundingAgrees : List PS := [.agg [.i .u64, .i .u64, .i .u64, .i .u64, .i .u64], .agg [.i .i64, .i .i64, .i .i64, .i .i64]]
def R_law03_SurdRoundingAgrees : RS := .one (.c (.b))
noncomputable def L_law03_SurdRoundingAgrees (vs : List Value) : List Value := (evF Try.prog [S_surd_Floor, S_surd_Half, S_ref01_FloorExact, S_gen_Exact, S_ref01_HalfExact, S_law03_awake] 1000 11 (inL A_law03_SurdRoundingAgrees vs)).outL
noncomputable def S_law03_SurdRoundingAgrees : Sum := ⟨11, L_law03_SurdRoundingAgrees, A_law03_SurdRoundingAgrees, R_law03_SurdRoundingAgrees⟩
theorem ok_law03_SurdRoundingAgrees : SumOK Try.prog Inv S_law03_SurdRoundingAgrees := sumOK_ev inv_stays (allOK_cons ok_surd_Floor (allOK_cons ok_surd_Half (allOK_cons ok_ref01_FloorExact (allOK_cons ok_gen_Exact (allOK_cons ok_ref01_HalfExact (allOK_cons ok_law03_awake allOK_nil)))))) 1000 11 A_law03_SurdRoundingAgrees R_law03_SurdRoundingAgrees (fun _ => by kernel_rfl)
noncomputable def F_law03_SurdRoundingAgrees (p0 : Int) (p1 : Int) (p2 : Int) (p3 : Int) (p4 : Int) (p5 : Int) (p6 : Int) (p7 : Int) (p8 : Int) : Bool := tru ((L_law03_SurdRoundingAgrees [.int .u64 p0, .int .u64 p1, .int .u64 p2, .int .u64 p3, .int .u64 p4, .int .i64 p5, .int .i64 p6, .int .i64 p7, .int .i64 p8]).getD 0 undef)
theorem F_law03_SurdRoundingAgrees_eq (p0 : Int) (p1 : Int) (p2 : Int) (p3 : Int) (p4 : Int) (p5 : Int) (p6 : Int) (p7 : Int) (p8 : Int) : F_law03_SurdRoundingAgrees p0 p1 p2 p3 p4 p5 p6 p7 p8 =
    let x0 := F_law03_awake
    bif x0 then
      (let x1 := F_gen_Exact p5 p6 p7 p8
      let x2 := F_surd_Floor x1.1 x1.2.1 x1.2.2.1 x1.2.2.2.1 x1.2.2.2.2
      let x3 := F_ref01_FloorExact x1.1 x1.2.1 x1.2.2.1 x1.2.2.2.1 x1.2.2.2.2
      bif (x2.1 == x3.1) then
        (bif (x2.2 == x3.2) then
          (let x4 := F_surd_Half x1.1 x1.2.1 x1.2.2.1 x1.2.2.2.1 x1.2.2.2.2
          let x5 := F_ref01_HalfExact x1.1 x1.2.1 x1.2.2.1 x1.2.2.2.1 x1.2.2.2.2
          bif (x4.1 == x5.1) then
            (bif (x4.2 == x5.2) then
              (let x6 := F_surd_Floor p0 p1 p2 p3 p4
              let x7 := F_ref01_FloorExact p0 p1 p2 p3 p4
              bif (x6.1 == x7.1) then
                (bif (x6.2 == x7.2) then
                  (let x8 := F_surd_Half p0 p1 p2 p3 p4
                  let x9 := F_ref01_HalfExact p0 p1 p2 p3 p4
                  bif (x8.1 == x9.1) then
                    ((x8.2 == x9.2))
                  else
                    (false))
                else
                  (false))
              else
                (false))
            else
              (false))
          else
            (false))
        else
          (false))
      else
        (false))
    else
      (false) :=
  spell (fun l => tru ((l).getD 0 undef)) (evF Try.prog [S_surd_Floor, S_surd_Half, S_ref01_FloorExact, S_gen_Exact, S_ref01_HalfExact, S_law03_awake] 1000 11 (inL A_law03_SurdRoundingAgrees [.int .u64 p0, .int .u64 p1, .int .u64 p2, .int .u64 p3, .int .u64 p4, .int .i64 p5, .int .i64 p6, .int .i64 p7, .int .i64 p8])) (by kernel_rfl) (by kernel_rfl)

/-! compositor/compositorlaw03.SurdFloorByCompare -/
def A_law03_SurdFloorByCompare : List PS := [.agg [.i .i64, .i .i64, .i .i64, .i .i64]]
def R_law03_SurdFloorByCompare : RS := .one (.c (.b))
noncomputable def L_law03_SurdFloorByCompare (vs : List Value) : List Value := (evF Try.prog [S_surd_Compare, S_surd_Floor, S_surd_Half, S_gen_Exact, S_law03_awake] 1000 12 (inL A_law03_SurdFloorByCompare vs)).outL
noncomputable def S_law03_SurdFloorByCompare : Sum := ⟨12, L_law03_SurdFloorByCompare, A_law03_SurdFloorByCompare, R_law03_SurdFloorByCompare⟩
theorem ok_law03_SurdFloorByCompare : SumOK Try.prog Inv S_law03_SurdFloorByCompare := sumOK_ev inv_stays (allOK_cons ok_surd_Compare (allOK_cons ok_surd_Floor (allOK_cons ok_surd_Half (allOK_cons ok_gen_Exact (allOK_cons ok_law03_awake allOK_nil))))) 1000 12 A_law03_SurdFloorByCompare R_law03_SurdFloorByCompare (fun _ => by kernel_rfl)
noncomputable def F_law03_SurdFloorByCompare (p0 : Int) (p1 : Int) (p2 : Int) (p3 : Int) : Bool := tru ((L_law03_SurdFloorByCompare [.int .i64 p0, .int .i64 p1, .int .i64 p2, .int .i64 p3]).getD 0 undef)
theorem F_law03_SurdFloorByCompare_eq (p0 : Int) (p1 : Int) (p2 : Int) (p3 : Int) : F_law03_SurdFloorByCompare p0 p1 p2 p3 =
    let x0 := F_law03_awake
    bif (!x0) then
      (bif x0 then
        (let x1 := F_gen_Exact p0 p1 p2 p3
        let x2 := F_surd_Floor x1.1 x1.2.1 x1.2.2.1 x1.2.2.2.1 x1.2.2.2.2
        (!x2.2))
      else
        (false))
    else
      (let x3 := F_gen_Exact p0 p1 p2 p3
      let x4 := F_surd_Floor x3.1 x3.2.1 x3.2.2.1 x3.2.2.2.1 x3.2.2.2.2
      bif (!x4.2) then
        (bif x0 then
          ((!x4.2))
        else
          (false))
      else
        (let x5 := F_surd_Compare x3.1 x3.2.1 x3.2.2.1 x3.2.2.2.1 x3.2.2.2.2 x4.1
        bif x5.2 then
          (let x6 := F_surd_Compare x3.1 x3.2.1 x3.2.2.1 x3.2.2.2.1 x3.2.2.2.2 (IntKind.u64.wrap (x4.1 + 1))
          bif x6.2 then
            (bif (decide (x5.1 ≥ 0)) then
              (bif (decide (x6.1 < 0)) then
                (let x7 := F_surd_Half x3.1 x3.2.1 x3.2.2.1 x3.2.2.2.1 x3.2.2.2.2
                bif (!x7.2) then
                  (true)
                else
                  (bif (x7.1 == x4.1) then
                    (true)
                  else
                    ((x7.1 == (IntKind.u64.wrap (x4.1 + 1))))))
              else
                (false))
            else
              (false))
          else
            (false))
        else
          (false))) :=
  spell (fun l => tru ((l).getD 0 undef)) (evF Try.prog [S_surd_Compare, S_surd_Floor, S_surd_Half, S_gen_Exact, S_law03_awake] 1000 12 (inL A_law03_SurdFloorByCompare [.int .i64 p0, .int .i64 p1, .int .i64 p2, .int .i64 p3])) (by kernel_rfl) (by kernel_rfl)

/-! compositor/compositorlaw03.SurdSquares -/
def A_law03_SurdSquares : List PS := [.c (.i .i64), .c (.i .i64), .c (.i .i64), .c (.i .i64)]
def R_law03_SurdSquares : RS := .one (.c (.b))
noncomputable def L_law03_SurdSquares (vs : List Value) : List Value := (evF Try.prog [S_surd_Half, S_ref01_Half, S_gen_Mod, S_law03_awake] 1000 13 (inL A_law03_SurdSquares vs)).outL
noncomputable def S_law03_SurdSquares : Sum := ⟨13, L_law03_SurdSquares, A_law03_SurdSquares, R_law03_SurdSquares⟩
theorem ok_law03_SurdSquares : SumOK Try.prog Inv S_law03_SurdSquares := sumOK_ev inv_stays (allOK_cons ok_surd_Half (allOK_cons ok_ref01_Half (allOK_cons ok_gen_Mod (allOK_cons ok_law03_awake allOK_nil)))) 1000 13 A_law03_SurdSquares R_law03_SurdSquares (fun _ => by kernel_rfl)
noncomputable def F_law03_SurdSquares (p0 : Int) (p1 : Int) (p2 : Int) (p3 : Int) : Bool := tru ((L_law03_SurdSquares [.int .i64 p0, .int .i64 p1, .int .i64 p2, .int .i64 p3]).getD 0 undef)
theorem F_law03_SurdSquares_eq (p0 : Int) (p1 : Int) (p2 : Int) (p3 : Int) : F_law03_SurdSquares p0 p1 p2 p3 =
    let x0 := F_law03_awake
    bif x0 then
      (let x1 := F_gen_Mod p0 1099511627776
      let x2 := F_gen_Mod p1 1048576
      let x3 := F_gen_Mod p2 65536
      let x4 := F_gen_Mod p3 1048576
      let x5 := F_surd_Half 0 (IntKind.u64.wrap x1) (IntKind.u64.wrap x2) (IntKind.u64.wrap ((IntKind.u64.wrap x3) * (IntKind.u64.wrap x3))) (IntKind.u64.wrap (IntKind.i64.wrap (1 + x4)))
      bif x5.2 then
        (let x6 := F_surd_Half 0 (IntKind.u64.wrap ((IntKind.u64.wrap x1) + (IntKind.u64.wrap ((IntKind.u64.wrap x2) * (IntKind.u64.wrap x3))))) 0 0 (IntKind.u64.wrap (IntKind.i64.wrap (1 + x4)))
        bif x6.2 then
          (bif (x5.1 == x6.1) then
            (let x7 := F_ref01_Half (IntKind.u64.wrap ((IntKind.u64.wrap x1) + (IntKind.u64.wrap ((IntKind.u64.wrap x2) * (IntKind.u64.wrap x3))))) (IntKind.u64.wrap (IntKind.i64.wrap (1 + x4)))
            (x5.1 == x7))
          else
            (false))
        else
          (false))
      else
        (false))
    else
      (false) :=
  spell (fun l => tru ((l).getD 0 undef)) (evF Try.prog [S_surd_Half, S_ref01_Half, S_gen_Mod, S_law03_awake] 1000 13 (inL A_law03_SurdSquares [.int .i64 p0, .int .i64 p1, .int .i64 p2, .int .i64 p3])) (by kernel_rfl) (by kernel_rfl)

/-! compositor/compositorlaw03.SurdScales -/
def A_law03_SurdScales : List PS := [.agg [.i .i64, .i .i64, .i .i64, .i .i64], .c (.i .i64)]
def R_law03_SurdScales : RS := .one (.c (.b))
noncomputable def L_law03_SurdScales (vs : List Value) : List Value := (evF Try.prog [S_ref01_MulSmall, S_surd_Half, S_gen_Mod, S_gen_Exact, S_law03_awake] 1000 14 (inL A_law03_SurdScales vs)).outL
noncomputable def S_law03_SurdScales : Sum := ⟨14, L_law03_SurdScales, A_law03_SurdScales, R_law03_SurdScales⟩
theorem ok_law03_SurdScales : SumOK Try.prog Inv S_law03_SurdScales := sumOK_ev inv_stays (allOK_cons ok_ref01_MulSmall (allOK_cons ok_surd_Half (allOK_cons ok_gen_Mod (allOK_cons ok_gen_Exact (allOK_cons ok_law03_awake allOK_nil))))) 1000 14 A_law03_SurdScales R_law03_SurdScales (fun _ => by kernel_rfl)
noncomputable def F_law03_SurdScales (p0 : Int) (p1 : Int) (p2 : Int) (p3 : Int) (p4 : Int) : Bool := tru ((L_law03_SurdScales [.int .i64 p0, .int .i64 p1, .int .i64 p2, .int .i64 p3, .int .i64 p4]).getD 0 undef)
theorem F_law03_SurdScales_eq (p0 : Int) (p1 : Int) (p2 : Int) (p3 : Int) (p4 : Int) : F_law03_SurdScales p0 p1 p2 p3 p4 =
    let x0 := F_gen_Exact p0 p1 p2 p3
    bif (decide (x0.2.2.2.2 > 1099511627776)) then
      (let x1 := F_law03_awake
      x1)
    else
      (let x2 := F_law03_awake
      bif x2 then
        (let x3 := F_surd_Half x0.1 x0.2.1 x0.2.2.1 x0.2.2.2.1 x0.2.2.2.2
        let x4 := F_gen_Mod p4 1000
        let x5 := F_ref01_MulSmall x0.1 x0.2.1 (IntKind.u64.wrap (IntKind.i64.wrap (1 + x4)))
        let x6 := F_surd_Half x5.1 x5.2.1 (IntKind.u64.wrap (x0.2.2.1 * (IntKind.u64.wrap (IntKind.i64.wrap (1 + x4))))) x0.2.2.2.1 (IntKind.u64.wrap (x0.2.2.2.2 * (IntKind.u64.wrap (IntKind.i64.wrap (1 + x4)))))
        bif (x3.2 == x6.2) then
          ((x3.1 == x6.1))
        else
          (false))
      else
        (false)) :=
  spell (fun l => tru ((l).getD 0 undef)) (evF Try.prog [S_ref01_MulSmall, S_surd_Half, S_gen_Mod, S_gen_Exact, S_law03_awake] 1000 14 (inL A_law03_SurdScales [.int .i64 p0, .int .i64 p1, .int .i64 p2, .int .i64 p3, .int .i64 p4])) (by kernel_rfl) (by kernel_rfl)
end Go.Proofs.Ytjgbkjkckhaheaa
