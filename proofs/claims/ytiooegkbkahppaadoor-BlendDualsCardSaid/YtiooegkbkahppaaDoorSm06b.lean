/- The statements of chapter 06, their checks Printed by a program (gen/Gen.lean); what each function does is told by the evaluator, and the kernel checks it. No condition. -/
import Derived.Test.YtiooegkbkahppaaDoorNames
import Derived.Test.YtiooegkbkahppaaDoorLaw03
import Derived.KernelRfl
namespace Go.Proofs.YtiooegkbkahppaaDoor
open Go.RowKit

/-! compositor/compositorlaw06.awake -/
def A_law06_awake : List PS := []
def R_law06_awake : RS := .one (.c (.b))
noncomputable def L_law06_awake (vs : List Value) : List Value := (evF Tryd.prog [S_blend_Exact, S_blend_Straight, S_blend_Name] 1000 18 (inL A_law06_awake vs)).outL
noncomputable def S_law06_awake : Sum := ⟨18, L_law06_awake, A_law06_awake, R_law06_awake⟩
theorem ok_law06_awake : SumOK Tryd.prog InvN S_law06_awake := sumOK_ev invN_stays (allOK_cons ok_blend_Exact.any (allOK_cons ok_blend_Straight.any (allOK_cons ok_blend_Name allOK_nil))) 1000 18 A_law06_awake R_law06_awake (fun _ => by kernel_rfl)
noncomputable def F_law06_awake : Bool := tru ((L_law06_awake []).getD 0 undef)
theorem F_law06_awake_eq : F_law06_awake =
    let x0 := F_blend_Straight 2 128 128 255
    bif x0.2 then
      (bif (x0.1 == 64) then
        (let x1 := F_blend_Straight 10 255 64 255
        bif x1.2 then
          (bif (x1.1 == 128) then
            (let x2 := F_blend_Exact 7 1 2 1 4
            bif x2.2.2.2.2.2 then
              (bif (((x2.1 == 0) && (x2.2.1 == 4)) && ((x2.2.2.1 == 0) && ((x2.2.2.2.1 == 0) && (x2.2.2.2.2.1 == 1)))) then
                (let x3 := F_blend_Name 9
                (eqStr x3 (ByteArray.mk #[104, 97, 114, 100, 45, 108, 105, 103, 104, 116])))
              else
                (false))
            else
              (false))
          else
            (false))
        else
          (false))
      else
        (false))
    else
      (false) :=
  spell (fun l => tru ((l).getD 0 undef)) (evF Tryd.prog [S_blend_Exact, S_blend_Straight, S_blend_Name] 1000 18 (inL A_law06_awake [])) (by kernel_rfl) (by kernel_rfl)

/-! compositor/compositorlaw06.BlendNames -/
def A_law06_BlendNames : List PS := [.c (.i .i64), .c (.s)]
def R_law06_BlendNames : RS := .one (.c (.b))
noncomputable def L_law06_BlendNames (vs : List Value) : List Value := (evF Tryd.prog [S_gen_Mod, S_ref06_ModeName, S_ref06_ParseMode, S_blend_Name, S_blend_Parse, S_law06_awake] 1000 11 (inL A_law06_BlendNames vs)).outL
noncomputable def S_law06_BlendNames : Sum := ⟨11, L_law06_BlendNames, A_law06_BlendNames, R_law06_BlendNames⟩
theorem ok_law06_BlendNames : SumOK Tryd.prog InvN S_law06_BlendNames := sumOK_ev invN_stays (allOK_cons ok_gen_Mod.any (allOK_cons ok_ref06_ModeName.any (allOK_cons ok_ref06_ParseMode.any (allOK_cons ok_blend_Name (allOK_cons ok_blend_Parse (allOK_cons ok_law06_awake allOK_nil)))))) 1000 11 A_law06_BlendNames R_law06_BlendNames (fun _ => by kernel_rfl)
noncomputable def F_law06_BlendNames (p0 : Int) (p1 : ByteArray) : Bool := tru ((L_law06_BlendNames [.int .i64 p0, .string p1]).getD 0 undef)
theorem F_law06_BlendNames_eq (p0 : Int) (p1 : ByteArray) : F_law06_BlendNames p0 p1 =
    let x0 := F_law06_awake
    bif x0 then
      (let x1 := F_blend_Parse p1
      let x2 := F_ref06_ParseMode p1
      bif (x1.1 == x2.1) then
        (bif (x1.2 == x2.2) then
          (let x3 := F_gen_Mod p0 15
          let x4 := F_ref06_ModeName (IntKind.i64.wrap (x3 - 1))
          let x5 := F_blend_Parse x4
          let x6 := F_ref06_ParseMode x4
          bif (x5.1 == x6.1) then
            (bif (x5.2 == x6.2) then
              (let x7 := F_blend_Name p0
              let x8 := F_ref06_ModeName p0
              bif (eqStr x7 x8) then
                (let x9 := F_blend_Name (IntKind.i64.wrap (x3 - 1))
                (eqStr x9 x4))
              else
                (false))
            else
              (false))
          else
            (false))
        else
          (false))
      else
        (false))
    else
      (false) :=
  spell (fun l => tru ((l).getD 0 undef)) (evF Tryd.prog [S_gen_Mod, S_ref06_ModeName, S_ref06_ParseMode, S_blend_Name, S_blend_Parse, S_law06_awake] 1000 11 (inL A_law06_BlendNames [.int .i64 p0, .string p1])) (by kernel_rfl) (by kernel_rfl)

/-! compositor/compositorlaw06.BlendExactAgrees -/
def A_law06_BlendExactAgrees : List PS := [.c (.i .i64), .c (.i .u16), .c (.i .u16), .c (.i .u16), .c (.i .u16), .agg [.i .i64, .i .i64, .i .i64, .i .i64], .c (.i .i64)]
def R_law06_BlendExactAgrees : RS := .one (.c (.b))
noncomputable def L_law06_BlendExactAgrees (vs : List Value) : List Value := (evF Tryd.prog [S_gen_Mod, S_gen_Max, S_gen_Alpha, S_blend_Exact, S_ref06_Blend, S_law06_max16, S_law06_awake] 1000 3 (inL A_law06_BlendExactAgrees vs)).outL
noncomputable def S_law06_BlendExactAgrees : Sum := ⟨3, L_law06_BlendExactAgrees, A_law06_BlendExactAgrees, R_law06_BlendExactAgrees⟩
theorem ok_law06_BlendExactAgrees : SumOK Tryd.prog InvN S_law06_BlendExactAgrees := sumOK_ev invN_stays (allOK_cons ok_gen_Mod.any (allOK_cons ok_gen_Max.any (allOK_cons ok_gen_Alpha.any (allOK_cons ok_blend_Exact.any (allOK_cons ok_ref06_Blend.any (allOK_cons ok_law06_max16.any (allOK_cons ok_law06_awake allOK_nil))))))) 1000 3 A_law06_BlendExactAgrees R_law06_BlendExactAgrees (fun _ => by kernel_rfl)
noncomputable def F_law06_BlendExactAgrees (p0 : Int) (p1 : Int) (p2 : Int) (p3 : Int) (p4 : Int) (p5 : Int) (p6 : Int) (p7 : Int) (p8 : Int) (p9 : Int) : Bool := tru ((L_law06_BlendExactAgrees [.int .i64 p0, .int .u16 p1, .int .u16 p2, .int .u16 p3, .int .u16 p4, .int .i64 p5, .int .i64 p6, .int .i64 p7, .int .i64 p8, .int .i64 p9]).getD 0 undef)
theorem F_law06_BlendExactAgrees_eq (p0 : Int) (p1 : Int) (p2 : Int) (p3 : Int) (p4 : Int) (p5 : Int) (p6 : Int) (p7 : Int) (p8 : Int) (p9 : Int) : F_law06_BlendExactAgrees p0 p1 p2 p3 p4 p5 p6 p7 p8 p9 =
    let x0 := F_law06_awake
    bif x0 then
      (let x1 := F_gen_Mod p0 15
      let x2 := F_gen_Max p9
      let x3 := F_gen_Alpha p5 p6 x2
      let x4 := F_gen_Alpha p7 p8 x2
      let x5 := F_blend_Exact (IntKind.i64.wrap (x1 - 1)) x3.1 x3.2 x4.1 x4.2
      let x6 := F_ref06_Blend (IntKind.i64.wrap (x1 - 1)) x3.1 x3.2 x4.1 x4.2
      bif (((x5.1 == x6.1) && (x5.2.1 == x6.2.1)) && ((x5.2.2.1 == x6.2.2.1) && ((x5.2.2.2.1 == x6.2.2.2.1) && (x5.2.2.2.2.1 == x6.2.2.2.2.1)))) then
        (bif (x5.2.2.2.2.2 == x6.2.2.2.2.2) then
          (let x7 := F_blend_Exact p0 p1 p2 p3 p4
          let x8 := F_ref06_Blend p0 p1 p2 p3 p4
          bif (((x7.1 == x8.1) && (x7.2.1 == x8.2.1)) && ((x7.2.2.1 == x8.2.2.1) && ((x7.2.2.2.1 == x8.2.2.2.1) && (x7.2.2.2.2.1 == x8.2.2.2.2.1)))) then
            (bif (x7.2.2.2.2.2 == x8.2.2.2.2.2) then
              (let x9 := F_law06_max16 p1 p2
              let x10 := F_law06_max16 p3 p4
              let x11 := F_blend_Exact (IntKind.i64.wrap (x1 - 1)) (if p2 < p1 then p2 else p1) x9 (if p4 < p3 then p4 else p3) x10
              let x12 := F_ref06_Blend (IntKind.i64.wrap (x1 - 1)) (if p2 < p1 then p2 else p1) x9 (if p4 < p3 then p4 else p3) x10
              bif (((x11.1 == x12.1) && (x11.2.1 == x12.2.1)) && ((x11.2.2.1 == x12.2.2.1) && ((x11.2.2.2.1 == x12.2.2.2.1) && (x11.2.2.2.2.1 == x12.2.2.2.2.1)))) then
                ((x11.2.2.2.2.2 == x12.2.2.2.2.2))
              else
                (false))
            else
              (false))
          else
            (false))
        else
          (false))
      else
        (false))
    else
      (false) :=
  spell (fun l => tru ((l).getD 0 undef)) (evF Tryd.prog [S_gen_Mod, S_gen_Max, S_gen_Alpha, S_blend_Exact, S_ref06_Blend, S_law06_max16, S_law06_awake] 1000 3 (inL A_law06_BlendExactAgrees [.int .i64 p0, .int .u16 p1, .int .u16 p2, .int .u16 p3, .int .u16 p4, .int .i64 p5, .int .i64 p6, .int .i64 p7, .int .i64 p8, .int .i64 p9])) (by kernel_rfl) (by kernel_rfl)

/-! compositor/compositorlaw06.BlendRejects -/
def A_law06_BlendRejects : List PS := [.c (.i .i64), .c (.i .i64), .c (.i .u16), .c (.i .u16), .c (.i .u16), .c (.i .u16)]
def R_law06_BlendRejects : RS := .one (.c (.b))
noncomputable def L_law06_BlendRejects (vs : List Value) : List Value := (evF Tryd.prog [S_gen_Mod, S_blend_Exact, S_blend_Straight, S_law06_max16, S_law06_awake] 1000 4 (inL A_law06_BlendRejects vs)).outL
noncomputable def S_law06_BlendRejects : Sum := ⟨4, L_law06_BlendRejects, A_law06_BlendRejects, R_law06_BlendRejects⟩
theorem okB_law06_BlendRejects (p0 : Int) (p1 : Int) (p2 : Int) (p3 : Int) (p4 : Int) (p5 : Int) : (evF Tryd.prog [S_gen_Mod, S_blend_Exact, S_blend_Straight, S_law06_max16, S_law06_awake] 1000 4 (inL A_law06_BlendRejects [.int .i64 p0, .int .i64 p1, .int .u16 p2, .int .u16 p3, .int .u16 p4, .int .u16 p5])).ok =
    let x0 := F_gen_Mod p1 4
    bif (x0 == 0) then
      (true)
    else
      (bif (x0 == 1) then
        (true)
      else
        (bif (x0 == 2) then
          (true)
        else
          (bif (x0 == 3) then
            (true)
          else
            (false)))) := (okR_eq _).trans (by kernel_rfl)
theorem okA_law06_BlendRejects (h : ∀ p0 p1 p2 p3 p4 p5 , IntKind.i64.min ≤ p0 → p0 ≤ IntKind.i64.max → IntKind.i64.min ≤ p1 → p1 ≤ IntKind.i64.max → IntKind.u16.min ≤ p2 → p2 ≤ IntKind.u16.max → IntKind.u16.min ≤ p3 → p3 ≤ IntKind.u16.max → IntKind.u16.min ≤ p4 → p4 ≤ IntKind.u16.max → IntKind.u16.min ≤ p5 → p5 ≤ IntKind.u16.max → (evF Tryd.prog [S_gen_Mod, S_blend_Exact, S_blend_Straight, S_law06_max16, S_law06_awake] 1000 4 (inL A_law06_BlendRejects [.int .i64 p0, .int .i64 p1, .int .u16 p2, .int .u16 p3, .int .u16 p4, .int .u16 p5])).ok = true) : SumOK Tryd.prog InvN S_law06_BlendRejects := sumOK_part invN_stays (allOK_cons ok_gen_Mod.any (allOK_cons ok_blend_Exact.any (allOK_cons ok_blend_Straight.any (allOK_cons ok_law06_max16.any (allOK_cons ok_law06_awake allOK_nil))))) 1000 4 A_law06_BlendRejects R_law06_BlendRejects (fun _ => by kernel_rfl) (fun vs hk => by
  obtain ⟨_, _, rfl, ⟨p0, rfl, p0lo, p0hi⟩, _, _, rfl, ⟨p1, rfl, p1lo, p1hi⟩, _, _, rfl, ⟨p2, rfl, p2lo, p2hi⟩, _, _, rfl, ⟨p3, rfl, p3lo, p3hi⟩, _, _, rfl, ⟨p4, rfl, p4lo, p4hi⟩, _, _, rfl, ⟨p5, rfl, p5lo, p5hi⟩, rfl⟩ := hk
  exact h p0 p1 p2 p3 p4 p5 p0lo p0hi p1lo p1hi p2lo p2hi p3lo p3hi p4lo p4hi p5lo p5hi )
theorem ok_law06_BlendRejects : SumOK Tryd.prog InvN S_law06_BlendRejects := okA_law06_BlendRejects (by
  intro p0 p1 p2 p3 p4 p5
  intros
  rw [okB_law06_BlendRejects]
  simp only [gMod (x := p1) (n := 4) (by decide) (by decide)]
  have e0 : p1 % 4 = 0 ∨ p1 % 4 = 1 ∨ p1 % 4 = 2 ∨ p1 % 4 = 3 := by omega
  rcases e0 with h | h | h | h <;> rw [h] <;> rfl)
noncomputable def F_law06_BlendRejects (p0 : Int) (p1 : Int) (p2 : Int) (p3 : Int) (p4 : Int) (p5 : Int) : Bool := tru ((L_law06_BlendRejects [.int .i64 p0, .int .i64 p1, .int .u16 p2, .int .u16 p3, .int .u16 p4, .int .u16 p5]).getD 0 undef)
theorem F_law06_BlendRejects_eq (p0 : Int) (p1 : Int) (p2 : Int) (p3 : Int) (p4 : Int) (p5 : Int) : F_law06_BlendRejects p0 p1 p2 p3 p4 p5 =
    let x0 := F_gen_Mod p1 4
    bif (x0 == 0) then
      (let x1 := F_law06_awake
      bif x1 then
        (let x2 := F_blend_Exact 0 p2 p2 p4 p4
        bif (!x2.2.2.2.2.2) then
          (let x3 := F_gen_Mod p0 12
          let x4 := F_law06_max16 p2 1
          let x5 := F_blend_Exact (IntKind.i64.wrap (1 + x3)) x4 (IntKind.u16.wrap (x4 - 1)) p4 p4
          bif (!x5.2.2.2.2.2) then
            (let x6 := F_law06_max16 p4 1
            let x7 := F_blend_Exact (IntKind.i64.wrap (1 + x3)) p2 p2 x6 (IntKind.u16.wrap (x6 - 1))
            bif (!x7.2.2.2.2.2) then
              (let x8 := F_blend_Straight (IntKind.i64.wrap (1 + x3)) p3 p5 0
              bif (!x8.2) then
                (let x9 := F_blend_Straight 0 1 1 255
                bif (!x9.2) then
                  (bif (((x2.1 == 0) && (x2.2.1 == 0)) && ((x2.2.2.1 == 0) && ((x2.2.2.2.1 == 0) && (x2.2.2.2.2.1 == 0)))) then
                    (bif (((x5.1 == 0) && (x5.2.1 == 0)) && ((x5.2.2.1 == 0) && ((x5.2.2.2.1 == 0) && (x5.2.2.2.2.1 == 0)))) then
                      (bif (((x7.1 == 0) && (x7.2.1 == 0)) && ((x7.2.2.1 == 0) && ((x7.2.2.2.1 == 0) && (x7.2.2.2.2.1 == 0)))) then
                        (bif (x8.1 == 0) then
                          ((x9.1 == 0))
                        else
                          (false))
                      else
                        (false))
                    else
                      (false))
                  else
                    (false))
                else
                  (false))
              else
                (false))
            else
              (false))
          else
            (false))
        else
          (false))
      else
        (false))
    else
      (bif (x0 == 1) then
        (let x10 := F_law06_awake
        bif x10 then
          (let x11 := F_blend_Exact 13 p2 p2 p4 p4
          bif (!x11.2.2.2.2.2) then
            (let x12 := F_gen_Mod p0 12
            let x13 := F_law06_max16 p2 1
            let x14 := F_blend_Exact (IntKind.i64.wrap (1 + x12)) x13 (IntKind.u16.wrap (x13 - 1)) p4 p4
            bif (!x14.2.2.2.2.2) then
              (let x15 := F_law06_max16 p4 1
              let x16 := F_blend_Exact (IntKind.i64.wrap (1 + x12)) p2 p2 x15 (IntKind.u16.wrap (x15 - 1))
              bif (!x16.2.2.2.2.2) then
                (let x17 := F_blend_Straight (IntKind.i64.wrap (1 + x12)) p3 p5 0
                bif (!x17.2) then
                  (let x18 := F_blend_Straight 13 1 1 255
                  bif (!x18.2) then
                    (bif (((x11.1 == 0) && (x11.2.1 == 0)) && ((x11.2.2.1 == 0) && ((x11.2.2.2.1 == 0) && (x11.2.2.2.2.1 == 0)))) then
                      (bif (((x14.1 == 0) && (x14.2.1 == 0)) && ((x14.2.2.1 == 0) && ((x14.2.2.2.1 == 0) && (x14.2.2.2.2.1 == 0)))) then
                        (bif (((x16.1 == 0) && (x16.2.1 == 0)) && ((x16.2.2.1 == 0) && ((x16.2.2.2.1 == 0) && (x16.2.2.2.2.1 == 0)))) then
                          (bif (x17.1 == 0) then
                            ((x18.1 == 0))
                          else
                            (false))
                        else
                          (false))
                      else
                        (false))
                    else
                      (false))
                  else
                    (false))
                else
                  (false))
              else
                (false))
            else
              (false))
          else
            (false))
        else
          (false))
      else
        (bif (x0 == 2) then
          (let x19 := F_law06_awake
          bif x19 then
            (let x20 := F_gen_Mod p1 1000
            let x21 := F_blend_Exact (IntKind.i64.wrap ((-1) - x20)) p2 p2 p4 p4
            bif (!x21.2.2.2.2.2) then
              (let x22 := F_gen_Mod p0 12
              let x23 := F_law06_max16 p2 1
              let x24 := F_blend_Exact (IntKind.i64.wrap (1 + x22)) x23 (IntKind.u16.wrap (x23 - 1)) p4 p4
              bif (!x24.2.2.2.2.2) then
                (let x25 := F_law06_max16 p4 1
                let x26 := F_blend_Exact (IntKind.i64.wrap (1 + x22)) p2 p2 x25 (IntKind.u16.wrap (x25 - 1))
                bif (!x26.2.2.2.2.2) then
                  (let x27 := F_blend_Straight (IntKind.i64.wrap (1 + x22)) p3 p5 0
                  bif (!x27.2) then
                    (let x28 := F_blend_Straight (IntKind.i64.wrap ((-1) - x20)) 1 1 255
                    bif (!x28.2) then
                      (bif (((x21.1 == 0) && (x21.2.1 == 0)) && ((x21.2.2.1 == 0) && ((x21.2.2.2.1 == 0) && (x21.2.2.2.2.1 == 0)))) then
                        (bif (((x24.1 == 0) && (x24.2.1 == 0)) && ((x24.2.2.1 == 0) && ((x24.2.2.2.1 == 0) && (x24.2.2.2.2.1 == 0)))) then
                          (bif (((x26.1 == 0) && (x26.2.1 == 0)) && ((x26.2.2.1 == 0) && ((x26.2.2.2.1 == 0) && (x26.2.2.2.2.1 == 0)))) then
                            (bif (x27.1 == 0) then
                              ((x28.1 == 0))
                            else
                              (false))
                          else
                            (false))
                        else
                          (false))
                      else
                        (false))
                    else
                      (false))
                  else
                    (false))
                else
                  (false))
              else
                (false))
            else
              (false))
          else
            (false))
        else
          (bif (x0 == 3) then
            (let x29 := F_law06_awake
            bif x29 then
              (let x30 := F_gen_Mod p1 1000
              let x31 := F_blend_Exact (IntKind.i64.wrap (13 + x30)) p2 p2 p4 p4
              bif (!x31.2.2.2.2.2) then
                (let x32 := F_gen_Mod p0 12
                let x33 := F_law06_max16 p2 1
                let x34 := F_blend_Exact (IntKind.i64.wrap (1 + x32)) x33 (IntKind.u16.wrap (x33 - 1)) p4 p4
                bif (!x34.2.2.2.2.2) then
                  (let x35 := F_law06_max16 p4 1
                  let x36 := F_blend_Exact (IntKind.i64.wrap (1 + x32)) p2 p2 x35 (IntKind.u16.wrap (x35 - 1))
                  bif (!x36.2.2.2.2.2) then
                    (let x37 := F_blend_Straight (IntKind.i64.wrap (1 + x32)) p3 p5 0
                    bif (!x37.2) then
                      (let x38 := F_blend_Straight (IntKind.i64.wrap (13 + x30)) 1 1 255
                      bif (!x38.2) then
                        (bif (((x31.1 == 0) && (x31.2.1 == 0)) && ((x31.2.2.1 == 0) && ((x31.2.2.2.1 == 0) && (x31.2.2.2.2.1 == 0)))) then
                          (bif (((x34.1 == 0) && (x34.2.1 == 0)) && ((x34.2.2.1 == 0) && ((x34.2.2.2.1 == 0) && (x34.2.2.2.2.1 == 0)))) then
                            (bif (((x36.1 == 0) && (x36.2.1 == 0)) && ((x36.2.2.1 == 0) && ((x36.2.2.2.1 == 0) && (x36.2.2.2.2.1 == 0)))) then
                              (bif (x37.1 == 0) then
                                ((x38.1 == 0))
                              else
                                (false))
                            else
                              (false))
                          else
                            (false))
                        else
                          (false))
                      else
                        (false))
                    else
                      (false))
                  else
                    (false))
                else
                  (false))
              else
                (false))
            else
              (false))
          else
            ((tru undef))))) :=
  spell (fun l => tru ((l).getD 0 undef)) (evF Tryd.prog [S_gen_Mod, S_blend_Exact, S_blend_Straight, S_law06_max16, S_law06_awake] 1000 4 (inL A_law06_BlendRejects [.int .i64 p0, .int .i64 p1, .int .u16 p2, .int .u16 p3, .int .u16 p4, .int .u16 p5])) (by kernel_rfl) (by kernel_rfl)

/-! compositor/compositorlaw06.BlendStaysInRange -/
def A_law06_BlendStaysInRange : List PS := [.c (.i .i64), .agg [.i .i64, .i .i64, .i .i64, .i .i64], .c (.i .i64)]
def R_law06_BlendStaysInRange : RS := .one (.c (.b))
noncomputable def L_law06_BlendStaysInRange (vs : List Value) : List Value := (evF Tryd.prog [S_ref01_ValidExact, S_ref01_CompareExact, S_gen_Mod, S_gen_Max, S_gen_Alpha, S_blend_Exact, S_law06_awake] 1000 5 (inL A_law06_BlendStaysInRange vs)).outL
noncomputable def S_law06_BlendStaysInRange : Sum := ⟨5, L_law06_BlendStaysInRange, A_law06_BlendStaysInRange, R_law06_BlendStaysInRange⟩
theorem ok_law06_BlendStaysInRange : SumOK Tryd.prog InvN S_law06_BlendStaysInRange := sumOK_ev invN_stays (allOK_cons ok_ref01_ValidExact.any (allOK_cons ok_ref01_CompareExact.any (allOK_cons ok_gen_Mod.any (allOK_cons ok_gen_Max.any (allOK_cons ok_gen_Alpha.any (allOK_cons ok_blend_Exact.any (allOK_cons ok_law06_awake allOK_nil))))))) 1000 5 A_law06_BlendStaysInRange R_law06_BlendStaysInRange (fun _ => by kernel_rfl)
noncomputable def F_law06_BlendStaysInRange (p0 : Int) (p1 : Int) (p2 : Int) (p3 : Int) (p4 : Int) (p5 : Int) : Bool := tru ((L_law06_BlendStaysInRange [.int .i64 p0, .int .i64 p1, .int .i64 p2, .int .i64 p3, .int .i64 p4, .int .i64 p5]).getD 0 undef)
theorem F_law06_BlendStaysInRange_eq (p0 : Int) (p1 : Int) (p2 : Int) (p3 : Int) (p4 : Int) (p5 : Int) : F_law06_BlendStaysInRange p0 p1 p2 p3 p4 p5 =
    let x0 := F_law06_awake
    bif (!x0) then
      (false)
    else
      (let x1 := F_gen_Mod p0 12
      let x2 := F_gen_Max p5
      let x3 := F_gen_Alpha p1 p2 x2
      let x4 := F_gen_Alpha p3 p4 x2
      let x5 := F_blend_Exact (IntKind.i64.wrap (1 + x1)) x3.1 x3.2 x4.1 x4.2
      bif (!x5.2.2.2.2.2) then
        (false)
      else
        (let x6 := F_ref01_ValidExact x5.1 x5.2.1 x5.2.2.1 x5.2.2.2.1 x5.2.2.2.2.1
        bif (!x6) then
          (false)
        else
          (let x7 := F_ref01_CompareExact x5.1 x5.2.1 x5.2.2.1 x5.2.2.2.1 x5.2.2.2.2.1 (IntKind.u64.wrap (x3.2 * x4.2))
          bif x7.2 then
            ((decide (x7.1 ≤ 0)))
          else
            (false)))) :=
  spell (fun l => tru ((l).getD 0 undef)) (evF Tryd.prog [S_ref01_ValidExact, S_ref01_CompareExact, S_gen_Mod, S_gen_Max, S_gen_Alpha, S_blend_Exact, S_law06_awake] 1000 5 (inL A_law06_BlendStaysInRange [.int .i64 p0, .int .i64 p1, .int .i64 p2, .int .i64 p3, .int .i64 p4, .int .i64 p5])) (by kernel_rfl) (by kernel_rfl)

/-! compositor/compositorlaw06.BlendSwaps -/
def A_law06_BlendSwaps : List PS := [.c (.i .i64), .agg [.i .i64, .i .i64, .i .i64, .i .i64], .c (.i .i64)]
def R_law06_BlendSwaps : RS := .one (.c (.b))
noncomputable def L_law06_BlendSwaps (vs : List Value) : List Value := (evF Tryd.prog [S_gen_Mod, S_gen_Max, S_gen_Alpha, S_blend_Exact, S_law06_awake] 1000 6 (inL A_law06_BlendSwaps vs)).outL
noncomputable def S_law06_BlendSwaps : Sum := ⟨6, L_law06_BlendSwaps, A_law06_BlendSwaps, R_law06_BlendSwaps⟩
theorem okB_law06_BlendSwaps (p0 : Int) (p1 : Int) (p2 : Int) (p3 : Int) (p4 : Int) (p5 : Int) : (evF Tryd.prog [S_gen_Mod, S_gen_Max, S_gen_Alpha, S_blend_Exact, S_law06_awake] 1000 6 (inL A_law06_BlendSwaps [.int .i64 p0, .int .i64 p1, .int .i64 p2, .int .i64 p3, .int .i64 p4, .int .i64 p5])).ok =
    let x0 := F_gen_Mod p0 6
    bif (x0 == 0) then
      (true)
    else
      (bif (x0 == 1) then
        (true)
      else
        (bif (x0 == 2) then
          (true)
        else
          (bif (x0 == 3) then
            (true)
          else
            (bif (x0 == 4) then
              (true)
            else
              (bif (x0 == 5) then
                (true)
              else
                (false)))))) := (okR_eq _).trans (by kernel_rfl)
theorem okA_law06_BlendSwaps (h : ∀ p0 p1 p2 p3 p4 p5 , IntKind.i64.min ≤ p0 → p0 ≤ IntKind.i64.max → IntKind.i64.min ≤ p1 → p1 ≤ IntKind.i64.max → IntKind.i64.min ≤ p2 → p2 ≤ IntKind.i64.max → IntKind.i64.min ≤ p3 → p3 ≤ IntKind.i64.max → IntKind.i64.min ≤ p4 → p4 ≤ IntKind.i64.max → IntKind.i64.min ≤ p5 → p5 ≤ IntKind.i64.max → (evF Tryd.prog [S_gen_Mod, S_gen_Max, S_gen_Alpha, S_blend_Exact, S_law06_awake] 1000 6 (inL A_law06_BlendSwaps [.int .i64 p0, .int .i64 p1, .int .i64 p2, .int .i64 p3, .int .i64 p4, .int .i64 p5])).ok = true) : SumOK Tryd.prog InvN S_law06_BlendSwaps := sumOK_part invN_stays (allOK_cons ok_gen_Mod.any (allOK_cons ok_gen_Max.any (allOK_cons ok_gen_Alpha.any (allOK_cons ok_blend_Exact.any (allOK_cons ok_law06_awake allOK_nil))))) 1000 6 A_law06_BlendSwaps R_law06_BlendSwaps (fun _ => by kernel_rfl) (fun vs hk => by
  obtain ⟨_, _, rfl, ⟨p0, rfl, p0lo, p0hi⟩, _, _, rfl, ⟨p1, rfl, p1lo, p1hi⟩, _, _, rfl, ⟨p2, rfl, p2lo, p2hi⟩, _, _, rfl, ⟨p3, rfl, p3lo, p3hi⟩, _, _, rfl, ⟨p4, rfl, p4lo, p4hi⟩, _, _, rfl, ⟨p5, rfl, p5lo, p5hi⟩, rfl⟩ := hk
  exact h p0 p1 p2 p3 p4 p5 p0lo p0hi p1lo p1hi p2lo p2hi p3lo p3hi p4lo p4hi p5lo p5hi )
theorem ok_law06_BlendSwaps : SumOK Tryd.prog InvN S_law06_BlendSwaps := okA_law06_BlendSwaps (by
  intro p0 p1 p2 p3 p4 p5
  intros
  rw [okB_law06_BlendSwaps]
  simp only [gMod (x := p0) (n := 6) (by decide) (by decide)]
  have e0 : p0 % 6 = 0 ∨ p0 % 6 = 1 ∨ p0 % 6 = 2 ∨ p0 % 6 = 3 ∨ p0 % 6 = 4 ∨ p0 % 6 = 5 := by omega
  rcases e0 with h | h | h | h | h | h <;> rw [h] <;> rfl)
noncomputable def F_law06_BlendSwaps (p0 : Int) (p1 : Int) (p2 : Int) (p3 : Int) (p4 : Int) (p5 : Int) : Bool := tru ((L_law06_BlendSwaps [.int .i64 p0, .int .i64 p1, .int .i64 p2, .int .i64 p3, .int .i64 p4, .int .i64 p5]).getD 0 undef)
theorem F_law06_BlendSwaps_eq (p0 : Int) (p1 : Int) (p2 : Int) (p3 : Int) (p4 : Int) (p5 : Int) : F_law06_BlendSwaps p0 p1 p2 p3 p4 p5 =
    let x0 := F_gen_Mod p0 6
    bif (x0 == 0) then
      (let x1 := F_law06_awake
      bif x1 then
        (let x2 := F_gen_Max p5
        let x3 := F_gen_Alpha p1 p2 x2
        let x4 := F_gen_Alpha p3 p4 x2
        let x5 := F_blend_Exact 4 x3.1 x3.2 x4.1 x4.2
        bif x5.2.2.2.2.2 then
          (let x6 := F_blend_Exact 9 x4.1 x4.2 x3.1 x3.2
          bif x6.2.2.2.2.2 then
            (bif (((x5.1 == x6.1) && (x5.2.1 == x6.2.1)) && ((x5.2.2.1 == x6.2.2.1) && ((x5.2.2.2.1 == x6.2.2.2.1) && (x5.2.2.2.2.1 == x6.2.2.2.2.1)))) then
              (let x7 := F_blend_Exact 2 x3.1 x3.2 x4.1 x4.2
              bif x7.2.2.2.2.2 then
                (let x8 := F_blend_Exact 2 x4.1 x4.2 x3.1 x3.2
                bif x8.2.2.2.2.2 then
                  ((((x7.1 == x8.1) && (x7.2.1 == x8.2.1)) && ((x7.2.2.1 == x8.2.2.1) && ((x7.2.2.2.1 == x8.2.2.2.1) && (x7.2.2.2.2.1 == x8.2.2.2.2.1)))))
                else
                  (false))
              else
                (false))
            else
              (false))
          else
            (false))
        else
          (false))
      else
        (false))
    else
      (bif (x0 == 1) then
        (let x9 := F_law06_awake
        bif x9 then
          (let x10 := F_gen_Max p5
          let x11 := F_gen_Alpha p1 p2 x10
          let x12 := F_gen_Alpha p3 p4 x10
          let x13 := F_blend_Exact 4 x11.1 x11.2 x12.1 x12.2
          bif x13.2.2.2.2.2 then
            (let x14 := F_blend_Exact 9 x12.1 x12.2 x11.1 x11.2
            bif x14.2.2.2.2.2 then
              (bif (((x13.1 == x14.1) && (x13.2.1 == x14.2.1)) && ((x13.2.2.1 == x14.2.2.1) && ((x13.2.2.2.1 == x14.2.2.2.1) && (x13.2.2.2.2.1 == x14.2.2.2.2.1)))) then
                (let x15 := F_blend_Exact 3 x11.1 x11.2 x12.1 x12.2
                bif x15.2.2.2.2.2 then
                  (let x16 := F_blend_Exact 3 x12.1 x12.2 x11.1 x11.2
                  bif x16.2.2.2.2.2 then
                    ((((x15.1 == x16.1) && (x15.2.1 == x16.2.1)) && ((x15.2.2.1 == x16.2.2.1) && ((x15.2.2.2.1 == x16.2.2.2.1) && (x15.2.2.2.2.1 == x16.2.2.2.2.1)))))
                  else
                    (false))
                else
                  (false))
              else
                (false))
            else
              (false))
          else
            (false))
        else
          (false))
      else
        (bif (x0 == 2) then
          (let x17 := F_law06_awake
          bif x17 then
            (let x18 := F_gen_Max p5
            let x19 := F_gen_Alpha p1 p2 x18
            let x20 := F_gen_Alpha p3 p4 x18
            let x21 := F_blend_Exact 4 x19.1 x19.2 x20.1 x20.2
            bif x21.2.2.2.2.2 then
              (let x22 := F_blend_Exact 9 x20.1 x20.2 x19.1 x19.2
              bif x22.2.2.2.2.2 then
                (bif (((x21.1 == x22.1) && (x21.2.1 == x22.2.1)) && ((x21.2.2.1 == x22.2.2.1) && ((x21.2.2.2.1 == x22.2.2.2.1) && (x21.2.2.2.2.1 == x22.2.2.2.2.1)))) then
                  (let x23 := F_blend_Exact 5 x19.1 x19.2 x20.1 x20.2
                  bif x23.2.2.2.2.2 then
                    (let x24 := F_blend_Exact 5 x20.1 x20.2 x19.1 x19.2
                    bif x24.2.2.2.2.2 then
                      ((((x23.1 == x24.1) && (x23.2.1 == x24.2.1)) && ((x23.2.2.1 == x24.2.2.1) && ((x23.2.2.2.1 == x24.2.2.2.1) && (x23.2.2.2.2.1 == x24.2.2.2.2.1)))))
                    else
                      (false))
                  else
                    (false))
                else
                  (false))
              else
                (false))
            else
              (false))
          else
            (false))
        else
          (bif (x0 == 3) then
            (let x25 := F_law06_awake
            bif x25 then
              (let x26 := F_gen_Max p5
              let x27 := F_gen_Alpha p1 p2 x26
              let x28 := F_gen_Alpha p3 p4 x26
              let x29 := F_blend_Exact 4 x27.1 x27.2 x28.1 x28.2
              bif x29.2.2.2.2.2 then
                (let x30 := F_blend_Exact 9 x28.1 x28.2 x27.1 x27.2
                bif x30.2.2.2.2.2 then
                  (bif (((x29.1 == x30.1) && (x29.2.1 == x30.2.1)) && ((x29.2.2.1 == x30.2.2.1) && ((x29.2.2.2.1 == x30.2.2.2.1) && (x29.2.2.2.2.1 == x30.2.2.2.2.1)))) then
                    (let x31 := F_blend_Exact 6 x27.1 x27.2 x28.1 x28.2
                    bif x31.2.2.2.2.2 then
                      (let x32 := F_blend_Exact 6 x28.1 x28.2 x27.1 x27.2
                      bif x32.2.2.2.2.2 then
                        ((((x31.1 == x32.1) && (x31.2.1 == x32.2.1)) && ((x31.2.2.1 == x32.2.2.1) && ((x31.2.2.2.1 == x32.2.2.2.1) && (x31.2.2.2.2.1 == x32.2.2.2.2.1)))))
                      else
                        (false))
                    else
                      (false))
                  else
                    (false))
                else
                  (false))
              else
                (false))
            else
              (false))
          else
            (bif (x0 == 4) then
              (let x33 := F_law06_awake
              bif x33 then
                (let x34 := F_gen_Max p5
                let x35 := F_gen_Alpha p1 p2 x34
                let x36 := F_gen_Alpha p3 p4 x34
                let x37 := F_blend_Exact 4 x35.1 x35.2 x36.1 x36.2
                bif x37.2.2.2.2.2 then
                  (let x38 := F_blend_Exact 9 x36.1 x36.2 x35.1 x35.2
                  bif x38.2.2.2.2.2 then
                    (bif (((x37.1 == x38.1) && (x37.2.1 == x38.2.1)) && ((x37.2.2.1 == x38.2.2.1) && ((x37.2.2.2.1 == x38.2.2.2.1) && (x37.2.2.2.2.1 == x38.2.2.2.2.1)))) then
                      (let x39 := F_blend_Exact 11 x35.1 x35.2 x36.1 x36.2
                      bif x39.2.2.2.2.2 then
                        (let x40 := F_blend_Exact 11 x36.1 x36.2 x35.1 x35.2
                        bif x40.2.2.2.2.2 then
                          ((((x39.1 == x40.1) && (x39.2.1 == x40.2.1)) && ((x39.2.2.1 == x40.2.2.1) && ((x39.2.2.2.1 == x40.2.2.2.1) && (x39.2.2.2.2.1 == x40.2.2.2.2.1)))))
                        else
                          (false))
                      else
                        (false))
                    else
                      (false))
                  else
                    (false))
                else
                  (false))
              else
                (false))
            else
              (bif (x0 == 5) then
                (let x41 := F_law06_awake
                bif x41 then
                  (let x42 := F_gen_Max p5
                  let x43 := F_gen_Alpha p1 p2 x42
                  let x44 := F_gen_Alpha p3 p4 x42
                  let x45 := F_blend_Exact 4 x43.1 x43.2 x44.1 x44.2
                  bif x45.2.2.2.2.2 then
                    (let x46 := F_blend_Exact 9 x44.1 x44.2 x43.1 x43.2
                    bif x46.2.2.2.2.2 then
                      (bif (((x45.1 == x46.1) && (x45.2.1 == x46.2.1)) && ((x45.2.2.1 == x46.2.2.1) && ((x45.2.2.2.1 == x46.2.2.2.1) && (x45.2.2.2.2.1 == x46.2.2.2.2.1)))) then
                        (let x47 := F_blend_Exact 12 x43.1 x43.2 x44.1 x44.2
                        bif x47.2.2.2.2.2 then
                          (let x48 := F_blend_Exact 12 x44.1 x44.2 x43.1 x43.2
                          bif x48.2.2.2.2.2 then
                            ((((x47.1 == x48.1) && (x47.2.1 == x48.2.1)) && ((x47.2.2.1 == x48.2.2.1) && ((x47.2.2.2.1 == x48.2.2.2.1) && (x47.2.2.2.2.1 == x48.2.2.2.2.1)))))
                          else
                            (false))
                        else
                          (false))
                      else
                        (false))
                    else
                      (false))
                  else
                    (false))
                else
                  (false))
              else
                ((tru undef))))))) :=
  spell (fun l => tru ((l).getD 0 undef)) (evF Tryd.prog [S_gen_Mod, S_gen_Max, S_gen_Alpha, S_blend_Exact, S_law06_awake] 1000 6 (inL A_law06_BlendSwaps [.int .i64 p0, .int .i64 p1, .int .i64 p2, .int .i64 p3, .int .i64 p4, .int .i64 p5])) (by kernel_rfl) (by kernel_rfl)

/-! compositor/compositorlaw06.BlendDuals -/
def A_law06_BlendDuals : List PS := [.c (.i .i64), .c (.i .u16), .c (.i .u16), .c (.i .i64)]
def R_law06_BlendDuals : RS := .one (.c (.b))
noncomputable def L_law06_BlendDuals (vs : List Value) : List Value := (evF Tryd.prog [S_gen_Mod, S_gen_Max, S_blend_Straight, S_law06_awake] 1000 7 (inL A_law06_BlendDuals vs)).outL
noncomputable def S_law06_BlendDuals : Sum := ⟨7, L_law06_BlendDuals, A_law06_BlendDuals, R_law06_BlendDuals⟩
theorem okB_law06_BlendDuals (p0 : Int) (p1 : Int) (p2 : Int) (p3 : Int) : (evF Tryd.prog [S_gen_Mod, S_gen_Max, S_blend_Straight, S_law06_awake] 1000 7 (inL A_law06_BlendDuals [.int .i64 p0, .int .u16 p1, .int .u16 p2, .int .i64 p3])).ok =
    let x0 := F_gen_Mod p0 4
    bif (x0 == 0) then
      (true)
    else
      (bif (x0 == 1) then
        (true)
      else
        (bif (x0 == 2) then
          (true)
        else
          (bif (x0 == 3) then
            (true)
          else
            (false)))) := (okR_eq _).trans (by kernel_rfl)
theorem okA_law06_BlendDuals (h : ∀ p0 p1 p2 p3 , IntKind.i64.min ≤ p0 → p0 ≤ IntKind.i64.max → IntKind.u16.min ≤ p1 → p1 ≤ IntKind.u16.max → IntKind.u16.min ≤ p2 → p2 ≤ IntKind.u16.max → IntKind.i64.min ≤ p3 → p3 ≤ IntKind.i64.max → (evF Tryd.prog [S_gen_Mod, S_gen_Max, S_blend_Straight, S_law06_awake] 1000 7 (inL A_law06_BlendDuals [.int .i64 p0, .int .u16 p1, .int .u16 p2, .int .i64 p3])).ok = true) : SumOK Tryd.prog InvN S_law06_BlendDuals := sumOK_part invN_stays (allOK_cons ok_gen_Mod.any (allOK_cons ok_gen_Max.any (allOK_cons ok_blend_Straight.any (allOK_cons ok_law06_awake allOK_nil)))) 1000 7 A_law06_BlendDuals R_law06_BlendDuals (fun _ => by kernel_rfl) (fun vs hk => by
  obtain ⟨_, _, rfl, ⟨p0, rfl, p0lo, p0hi⟩, _, _, rfl, ⟨p1, rfl, p1lo, p1hi⟩, _, _, rfl, ⟨p2, rfl, p2lo, p2hi⟩, _, _, rfl, ⟨p3, rfl, p3lo, p3hi⟩, rfl⟩ := hk
  exact h p0 p1 p2 p3 p0lo p0hi p1lo p1hi p2lo p2hi p3lo p3hi )
theorem ok_law06_BlendDuals : SumOK Tryd.prog InvN S_law06_BlendDuals := okA_law06_BlendDuals (by
  intro p0 p1 p2 p3
  intros
  rw [okB_law06_BlendDuals]
  simp only [gMod (x := p0) (n := 4) (by decide) (by decide)]
  have e0 : p0 % 4 = 0 ∨ p0 % 4 = 1 ∨ p0 % 4 = 2 ∨ p0 % 4 = 3 := by omega
  rcases e0 with h | h | h | h <;> rw [h] <;> rfl)
noncomputable def F_law06_BlendDuals (p0 : Int) (p1 : Int) (p2 : Int) (p3 : Int) : Bool := tru ((L_law06_BlendDuals [.int .i64 p0, .int .u16 p1, .int .u16 p2, .int .i64 p3]).getD 0 undef)
theorem F_law06_BlendDuals_eq (p0 : Int) (p1 : Int) (p2 : Int) (p3 : Int) : F_law06_BlendDuals p0 p1 p2 p3 =
    let x0 := F_gen_Mod p0 4
    bif (x0 == 0) then
      (let x1 := F_law06_awake
      bif x1 then
        (let x2 := F_gen_Max p3
        let x3 := F_gen_Mod p1 (IntKind.i64.wrap (x2 + 1))
        let x4 := F_gen_Mod p2 (IntKind.i64.wrap (x2 + 1))
        let x5 := F_blend_Straight 3 (IntKind.u16.wrap x3) (IntKind.u16.wrap x4) x2
        bif x5.2 then
          (let x6 := F_blend_Straight 2 (IntKind.u16.wrap (x2 - (IntKind.u16.wrap x3))) (IntKind.u16.wrap (x2 - (IntKind.u16.wrap x4))) x2
          bif x6.2 then
            (bif ((IntKind.i64.wrap (x5.1 + x6.1)) == x2) then
              (true)
            else
              (((IntKind.i64.wrap (x5.1 + x6.1)) == (IntKind.i64.wrap (x2 + 1)))))
          else
            (false))
        else
          (false))
      else
        (false))
    else
      (bif (x0 == 1) then
        (let x7 := F_law06_awake
        bif x7 then
          (let x8 := F_gen_Max p3
          let x9 := F_gen_Mod p1 (IntKind.i64.wrap (x8 + 1))
          let x10 := F_gen_Mod p2 (IntKind.i64.wrap (x8 + 1))
          let x11 := F_blend_Straight 6 (IntKind.u16.wrap x9) (IntKind.u16.wrap x10) x8
          bif x11.2 then
            (let x12 := F_blend_Straight 5 (IntKind.u16.wrap (x8 - (IntKind.u16.wrap x9))) (IntKind.u16.wrap (x8 - (IntKind.u16.wrap x10))) x8
            bif x12.2 then
              (bif ((IntKind.i64.wrap (x11.1 + x12.1)) == x8) then
                (true)
              else
                (((IntKind.i64.wrap (x11.1 + x12.1)) == (IntKind.i64.wrap (x8 + 1)))))
            else
              (false))
          else
            (false))
        else
          (false))
      else
        (bif (x0 == 2) then
          (let x13 := F_law06_awake
          bif x13 then
            (let x14 := F_gen_Max p3
            let x15 := F_gen_Mod p1 (IntKind.i64.wrap (x14 + 1))
            let x16 := F_gen_Mod p2 (IntKind.i64.wrap (x14 + 1))
            let x17 := F_blend_Straight 8 (IntKind.u16.wrap x15) (IntKind.u16.wrap x16) x14
            bif x17.2 then
              (let x18 := F_blend_Straight 7 (IntKind.u16.wrap (x14 - (IntKind.u16.wrap x15))) (IntKind.u16.wrap (x14 - (IntKind.u16.wrap x16))) x14
              bif x18.2 then
                (bif ((IntKind.i64.wrap (x17.1 + x18.1)) == x14) then
                  (true)
                else
                  (((IntKind.i64.wrap (x17.1 + x18.1)) == (IntKind.i64.wrap (x14 + 1)))))
              else
                (false))
            else
              (false))
          else
            (false))
        else
          (bif (x0 == 3) then
            (let x19 := F_law06_awake
            bif x19 then
              (let x20 := F_gen_Max p3
              let x21 := F_gen_Mod p1 (IntKind.i64.wrap (x20 + 1))
              let x22 := F_gen_Mod p2 (IntKind.i64.wrap (x20 + 1))
              let x23 := F_blend_Straight 9 (IntKind.u16.wrap x21) (IntKind.u16.wrap x22) x20
              bif x23.2 then
                (let x24 := F_blend_Straight 9 (IntKind.u16.wrap (x20 - (IntKind.u16.wrap x21))) (IntKind.u16.wrap (x20 - (IntKind.u16.wrap x22))) x20
                bif x24.2 then
                  (bif ((IntKind.i64.wrap (x23.1 + x24.1)) == x20) then
                    (true)
                  else
                    (((IntKind.i64.wrap (x23.1 + x24.1)) == (IntKind.i64.wrap (x20 + 1)))))
                else
                  (false))
              else
                (false))
            else
              (false))
          else
            ((tru undef))))) :=
  spell (fun l => tru ((l).getD 0 undef)) (evF Tryd.prog [S_gen_Mod, S_gen_Max, S_blend_Straight, S_law06_awake] 1000 7 (inL A_law06_BlendDuals [.int .i64 p0, .int .u16 p1, .int .u16 p2, .int .i64 p3])) (by kernel_rfl) (by kernel_rfl)

/-! compositor/compositorlaw06.BlendNeutralColours -/
def A_law06_BlendNeutralColours : List PS := [.c (.i .u16), .c (.i .i64), .c (.i .i64)]
def R_law06_BlendNeutralColours : RS := .one (.c (.b))
noncomputable def L_law06_BlendNeutralColours (vs : List Value) : List Value := (evF Tryd.prog [S_gen_Mod, S_gen_Max, S_blend_Straight, S_law06_awake] 1000 8 (inL A_law06_BlendNeutralColours vs)).outL
noncomputable def S_law06_BlendNeutralColours : Sum := ⟨8, L_law06_BlendNeutralColours, A_law06_BlendNeutralColours, R_law06_BlendNeutralColours⟩
theorem okB_law06_BlendNeutralColours (p0 : Int) (p1 : Int) (p2 : Int) : (evF Tryd.prog [S_gen_Mod, S_gen_Max, S_blend_Straight, S_law06_awake] 1000 8 (inL A_law06_BlendNeutralColours [.int .u16 p0, .int .i64 p1, .int .i64 p2])).ok =
    let x0 := F_gen_Mod p1 3
    bif (x0 == 0) then
      (let x1 := F_gen_Mod p1 5
      bif (x1 == 0) then
        (true)
      else
        (bif (x1 == 1) then
          (true)
        else
          (bif (x1 == 2) then
            (true)
          else
            (bif (x1 == 3) then
              (true)
            else
              (bif (x1 == 4) then
                (true)
              else
                (false))))))
    else
      (bif (x0 == 1) then
        (let x2 := F_gen_Mod p1 5
        bif (x2 == 0) then
          (true)
        else
          (bif (x2 == 1) then
            (true)
          else
            (bif (x2 == 2) then
              (true)
            else
              (bif (x2 == 3) then
                (true)
              else
                (bif (x2 == 4) then
                  (true)
                else
                  (false))))))
      else
        (bif (x0 == 2) then
          (let x3 := F_gen_Mod p1 5
          bif (x3 == 0) then
            (true)
          else
            (bif (x3 == 1) then
              (true)
            else
              (bif (x3 == 2) then
                (true)
              else
                (bif (x3 == 3) then
                  (true)
                else
                  (bif (x3 == 4) then
                    (true)
                  else
                    (false))))))
        else
          (false))) := (okR_eq _).trans (by kernel_rfl)
theorem okA_law06_BlendNeutralColours (h : ∀ p0 p1 p2 , IntKind.u16.min ≤ p0 → p0 ≤ IntKind.u16.max → IntKind.i64.min ≤ p1 → p1 ≤ IntKind.i64.max → IntKind.i64.min ≤ p2 → p2 ≤ IntKind.i64.max → (evF Tryd.prog [S_gen_Mod, S_gen_Max, S_blend_Straight, S_law06_awake] 1000 8 (inL A_law06_BlendNeutralColours [.int .u16 p0, .int .i64 p1, .int .i64 p2])).ok = true) : SumOK Tryd.prog InvN S_law06_BlendNeutralColours := sumOK_part invN_stays (allOK_cons ok_gen_Mod.any (allOK_cons ok_gen_Max.any (allOK_cons ok_blend_Straight.any (allOK_cons ok_law06_awake allOK_nil)))) 1000 8 A_law06_BlendNeutralColours R_law06_BlendNeutralColours (fun _ => by kernel_rfl) (fun vs hk => by
  obtain ⟨_, _, rfl, ⟨p0, rfl, p0lo, p0hi⟩, _, _, rfl, ⟨p1, rfl, p1lo, p1hi⟩, _, _, rfl, ⟨p2, rfl, p2lo, p2hi⟩, rfl⟩ := hk
  exact h p0 p1 p2 p0lo p0hi p1lo p1hi p2lo p2hi )
theorem ok_law06_BlendNeutralColours : SumOK Tryd.prog InvN S_law06_BlendNeutralColours := okA_law06_BlendNeutralColours (by
  intro p0 p1 p2
  intros
  rw [okB_law06_BlendNeutralColours]
  simp only [gMod (x := p1) (n := 3) (by decide) (by decide), gMod (x := p1) (n := 5) (by decide) (by decide)]
  have e0 : p1 % 3 = 0 ∨ p1 % 3 = 1 ∨ p1 % 3 = 2 := by omega
  have e1 : p1 % 5 = 0 ∨ p1 % 5 = 1 ∨ p1 % 5 = 2 ∨ p1 % 5 = 3 ∨ p1 % 5 = 4 := by omega
  rcases e0 with h | h | h <;> rcases e1 with k | k | k | k | k <;> rw [h, k] <;> rfl)
noncomputable def F_law06_BlendNeutralColours (p0 : Int) (p1 : Int) (p2 : Int) : Bool := tru ((L_law06_BlendNeutralColours [.int .u16 p0, .int .i64 p1, .int .i64 p2]).getD 0 undef)
theorem F_law06_BlendNeutralColours_eq (p0 : Int) (p1 : Int) (p2 : Int) : F_law06_BlendNeutralColours p0 p1 p2 =
    let x0 := F_gen_Mod p1 3
    bif (x0 == 0) then
      (let x1 := F_gen_Mod p1 5
      bif (x1 == 0) then
        (let x2 := F_law06_awake
        bif x2 then
          (let x3 := F_gen_Max p2
          let x4 := F_gen_Mod p0 (IntKind.i64.wrap (x3 + 1))
          let x5 := F_blend_Straight 2 x3 (IntKind.u16.wrap x4) x3
          bif x5.2 then
            (let x6 := F_blend_Straight 3 0 (IntKind.u16.wrap x4) x3
            bif x6.2 then
              (let x7 := F_blend_Straight 1 (IntKind.u16.wrap x4) (IntKind.u16.wrap (x3 - (IntKind.u16.wrap x4))) x3
              bif x7.2 then
                (bif (x5.1 == (IntKind.u16.wrap x4)) then
                  (bif (x6.1 == (IntKind.u16.wrap x4)) then
                    ((x7.1 == (IntKind.u16.wrap x4)))
                  else
                    (false))
                else
                  (false))
              else
                (false))
            else
              (false))
          else
            (false))
        else
          (false))
      else
        (bif (x1 == 1) then
          (let x8 := F_law06_awake
          bif x8 then
            (let x9 := F_gen_Max p2
            let x10 := F_gen_Mod p0 (IntKind.i64.wrap (x9 + 1))
            let x11 := F_blend_Straight 2 x9 (IntKind.u16.wrap x10) x9
            bif x11.2 then
              (let x12 := F_blend_Straight 7 0 (IntKind.u16.wrap x10) x9
              bif x12.2 then
                (let x13 := F_blend_Straight 1 (IntKind.u16.wrap x10) (IntKind.u16.wrap (x9 - (IntKind.u16.wrap x10))) x9
                bif x13.2 then
                  (bif (x11.1 == (IntKind.u16.wrap x10)) then
                    (bif (x12.1 == (IntKind.u16.wrap x10)) then
                      ((x13.1 == (IntKind.u16.wrap x10)))
                    else
                      (false))
                  else
                    (false))
                else
                  (false))
              else
                (false))
            else
              (false))
          else
            (false))
        else
          (bif (x1 == 2) then
            (let x14 := F_law06_awake
            bif x14 then
              (let x15 := F_gen_Max p2
              let x16 := F_gen_Mod p0 (IntKind.i64.wrap (x15 + 1))
              let x17 := F_blend_Straight 2 x15 (IntKind.u16.wrap x16) x15
              bif x17.2 then
                (let x18 := F_blend_Straight 6 0 (IntKind.u16.wrap x16) x15
                bif x18.2 then
                  (let x19 := F_blend_Straight 1 (IntKind.u16.wrap x16) (IntKind.u16.wrap (x15 - (IntKind.u16.wrap x16))) x15
                  bif x19.2 then
                    (bif (x17.1 == (IntKind.u16.wrap x16)) then
                      (bif (x18.1 == (IntKind.u16.wrap x16)) then
                        ((x19.1 == (IntKind.u16.wrap x16)))
                      else
                        (false))
                    else
                      (false))
                  else
                    (false))
                else
                  (false))
              else
                (false))
            else
              (false))
          else
            (bif (x1 == 3) then
              (let x20 := F_law06_awake
              bif x20 then
                (let x21 := F_gen_Max p2
                let x22 := F_gen_Mod p0 (IntKind.i64.wrap (x21 + 1))
                let x23 := F_blend_Straight 2 x21 (IntKind.u16.wrap x22) x21
                bif x23.2 then
                  (let x24 := F_blend_Straight 11 0 (IntKind.u16.wrap x22) x21
                  bif x24.2 then
                    (let x25 := F_blend_Straight 1 (IntKind.u16.wrap x22) (IntKind.u16.wrap (x21 - (IntKind.u16.wrap x22))) x21
                    bif x25.2 then
                      (bif (x23.1 == (IntKind.u16.wrap x22)) then
                        (bif (x24.1 == (IntKind.u16.wrap x22)) then
                          ((x25.1 == (IntKind.u16.wrap x22)))
                        else
                          (false))
                      else
                        (false))
                    else
                      (false))
                  else
                    (false))
                else
                  (false))
              else
                (false))
            else
              (bif (x1 == 4) then
                (let x26 := F_law06_awake
                bif x26 then
                  (let x27 := F_gen_Max p2
                  let x28 := F_gen_Mod p0 (IntKind.i64.wrap (x27 + 1))
                  let x29 := F_blend_Straight 2 x27 (IntKind.u16.wrap x28) x27
                  bif x29.2 then
                    (let x30 := F_blend_Straight 12 0 (IntKind.u16.wrap x28) x27
                    bif x30.2 then
                      (let x31 := F_blend_Straight 1 (IntKind.u16.wrap x28) (IntKind.u16.wrap (x27 - (IntKind.u16.wrap x28))) x27
                      bif x31.2 then
                        (bif (x29.1 == (IntKind.u16.wrap x28)) then
                          (bif (x30.1 == (IntKind.u16.wrap x28)) then
                            ((x31.1 == (IntKind.u16.wrap x28)))
                          else
                            (false))
                        else
                          (false))
                      else
                        (false))
                    else
                      (false))
                  else
                    (false))
                else
                  (false))
              else
                ((tru undef)))))))
    else
      (bif (x0 == 1) then
        (let x32 := F_gen_Mod p1 5
        bif (x32 == 0) then
          (let x33 := F_law06_awake
          bif x33 then
            (let x34 := F_gen_Max p2
            let x35 := F_gen_Mod p0 (IntKind.i64.wrap (x34 + 1))
            let x36 := F_blend_Straight 8 x34 (IntKind.u16.wrap x35) x34
            bif x36.2 then
              (let x37 := F_blend_Straight 3 0 (IntKind.u16.wrap x35) x34
              bif x37.2 then
                (let x38 := F_blend_Straight 1 (IntKind.u16.wrap x35) (IntKind.u16.wrap (x34 - (IntKind.u16.wrap x35))) x34
                bif x38.2 then
                  (bif (x36.1 == (IntKind.u16.wrap x35)) then
                    (bif (x37.1 == (IntKind.u16.wrap x35)) then
                      ((x38.1 == (IntKind.u16.wrap x35)))
                    else
                      (false))
                  else
                    (false))
                else
                  (false))
              else
                (false))
            else
              (false))
          else
            (false))
        else
          (bif (x32 == 1) then
            (let x39 := F_law06_awake
            bif x39 then
              (let x40 := F_gen_Max p2
              let x41 := F_gen_Mod p0 (IntKind.i64.wrap (x40 + 1))
              let x42 := F_blend_Straight 8 x40 (IntKind.u16.wrap x41) x40
              bif x42.2 then
                (let x43 := F_blend_Straight 7 0 (IntKind.u16.wrap x41) x40
                bif x43.2 then
                  (let x44 := F_blend_Straight 1 (IntKind.u16.wrap x41) (IntKind.u16.wrap (x40 - (IntKind.u16.wrap x41))) x40
                  bif x44.2 then
                    (bif (x42.1 == (IntKind.u16.wrap x41)) then
                      (bif (x43.1 == (IntKind.u16.wrap x41)) then
                        ((x44.1 == (IntKind.u16.wrap x41)))
                      else
                        (false))
                    else
                      (false))
                  else
                    (false))
                else
                  (false))
              else
                (false))
            else
              (false))
          else
            (bif (x32 == 2) then
              (let x45 := F_law06_awake
              bif x45 then
                (let x46 := F_gen_Max p2
                let x47 := F_gen_Mod p0 (IntKind.i64.wrap (x46 + 1))
                let x48 := F_blend_Straight 8 x46 (IntKind.u16.wrap x47) x46
                bif x48.2 then
                  (let x49 := F_blend_Straight 6 0 (IntKind.u16.wrap x47) x46
                  bif x49.2 then
                    (let x50 := F_blend_Straight 1 (IntKind.u16.wrap x47) (IntKind.u16.wrap (x46 - (IntKind.u16.wrap x47))) x46
                    bif x50.2 then
                      (bif (x48.1 == (IntKind.u16.wrap x47)) then
                        (bif (x49.1 == (IntKind.u16.wrap x47)) then
                          ((x50.1 == (IntKind.u16.wrap x47)))
                        else
                          (false))
                      else
                        (false))
                    else
                      (false))
                  else
                    (false))
                else
                  (false))
              else
                (false))
            else
              (bif (x32 == 3) then
                (let x51 := F_law06_awake
                bif x51 then
                  (let x52 := F_gen_Max p2
                  let x53 := F_gen_Mod p0 (IntKind.i64.wrap (x52 + 1))
                  let x54 := F_blend_Straight 8 x52 (IntKind.u16.wrap x53) x52
                  bif x54.2 then
                    (let x55 := F_blend_Straight 11 0 (IntKind.u16.wrap x53) x52
                    bif x55.2 then
                      (let x56 := F_blend_Straight 1 (IntKind.u16.wrap x53) (IntKind.u16.wrap (x52 - (IntKind.u16.wrap x53))) x52
                      bif x56.2 then
                        (bif (x54.1 == (IntKind.u16.wrap x53)) then
                          (bif (x55.1 == (IntKind.u16.wrap x53)) then
                            ((x56.1 == (IntKind.u16.wrap x53)))
                          else
                            (false))
                        else
                          (false))
                      else
                        (false))
                    else
                      (false))
                  else
                    (false))
                else
                  (false))
              else
                (bif (x32 == 4) then
                  (let x57 := F_law06_awake
                  bif x57 then
                    (let x58 := F_gen_Max p2
                    let x59 := F_gen_Mod p0 (IntKind.i64.wrap (x58 + 1))
                    let x60 := F_blend_Straight 8 x58 (IntKind.u16.wrap x59) x58
                    bif x60.2 then
                      (let x61 := F_blend_Straight 12 0 (IntKind.u16.wrap x59) x58
                      bif x61.2 then
                        (let x62 := F_blend_Straight 1 (IntKind.u16.wrap x59) (IntKind.u16.wrap (x58 - (IntKind.u16.wrap x59))) x58
                        bif x62.2 then
                          (bif (x60.1 == (IntKind.u16.wrap x59)) then
                            (bif (x61.1 == (IntKind.u16.wrap x59)) then
                              ((x62.1 == (IntKind.u16.wrap x59)))
                            else
                              (false))
                          else
                            (false))
                        else
                          (false))
                      else
                        (false))
                    else
                      (false))
                  else
                    (false))
                else
                  ((tru undef)))))))
      else
        (bif (x0 == 2) then
          (let x63 := F_gen_Mod p1 5
          bif (x63 == 0) then
            (let x64 := F_law06_awake
            bif x64 then
              (let x65 := F_gen_Max p2
              let x66 := F_gen_Mod p0 (IntKind.i64.wrap (x65 + 1))
              let x67 := F_blend_Straight 5 x65 (IntKind.u16.wrap x66) x65
              bif x67.2 then
                (let x68 := F_blend_Straight 3 0 (IntKind.u16.wrap x66) x65
                bif x68.2 then
                  (let x69 := F_blend_Straight 1 (IntKind.u16.wrap x66) (IntKind.u16.wrap (x65 - (IntKind.u16.wrap x66))) x65
                  bif x69.2 then
                    (bif (x67.1 == (IntKind.u16.wrap x66)) then
                      (bif (x68.1 == (IntKind.u16.wrap x66)) then
                        ((x69.1 == (IntKind.u16.wrap x66)))
                      else
                        (false))
                    else
                      (false))
                  else
                    (false))
                else
                  (false))
              else
                (false))
            else
              (false))
          else
            (bif (x63 == 1) then
              (let x70 := F_law06_awake
              bif x70 then
                (let x71 := F_gen_Max p2
                let x72 := F_gen_Mod p0 (IntKind.i64.wrap (x71 + 1))
                let x73 := F_blend_Straight 5 x71 (IntKind.u16.wrap x72) x71
                bif x73.2 then
                  (let x74 := F_blend_Straight 7 0 (IntKind.u16.wrap x72) x71
                  bif x74.2 then
                    (let x75 := F_blend_Straight 1 (IntKind.u16.wrap x72) (IntKind.u16.wrap (x71 - (IntKind.u16.wrap x72))) x71
                    bif x75.2 then
                      (bif (x73.1 == (IntKind.u16.wrap x72)) then
                        (bif (x74.1 == (IntKind.u16.wrap x72)) then
                          ((x75.1 == (IntKind.u16.wrap x72)))
                        else
                          (false))
                      else
                        (false))
                    else
                      (false))
                  else
                    (false))
                else
                  (false))
              else
                (false))
            else
              (bif (x63 == 2) then
                (let x76 := F_law06_awake
                bif x76 then
                  (let x77 := F_gen_Max p2
                  let x78 := F_gen_Mod p0 (IntKind.i64.wrap (x77 + 1))
                  let x79 := F_blend_Straight 5 x77 (IntKind.u16.wrap x78) x77
                  bif x79.2 then
                    (let x80 := F_blend_Straight 6 0 (IntKind.u16.wrap x78) x77
                    bif x80.2 then
                      (let x81 := F_blend_Straight 1 (IntKind.u16.wrap x78) (IntKind.u16.wrap (x77 - (IntKind.u16.wrap x78))) x77
                      bif x81.2 then
                        (bif (x79.1 == (IntKind.u16.wrap x78)) then
                          (bif (x80.1 == (IntKind.u16.wrap x78)) then
                            ((x81.1 == (IntKind.u16.wrap x78)))
                          else
                            (false))
                        else
                          (false))
                      else
                        (false))
                    else
                      (false))
                  else
                    (false))
                else
                  (false))
              else
                (bif (x63 == 3) then
                  (let x82 := F_law06_awake
                  bif x82 then
                    (let x83 := F_gen_Max p2
                    let x84 := F_gen_Mod p0 (IntKind.i64.wrap (x83 + 1))
                    let x85 := F_blend_Straight 5 x83 (IntKind.u16.wrap x84) x83
                    bif x85.2 then
                      (let x86 := F_blend_Straight 11 0 (IntKind.u16.wrap x84) x83
                      bif x86.2 then
                        (let x87 := F_blend_Straight 1 (IntKind.u16.wrap x84) (IntKind.u16.wrap (x83 - (IntKind.u16.wrap x84))) x83
                        bif x87.2 then
                          (bif (x85.1 == (IntKind.u16.wrap x84)) then
                            (bif (x86.1 == (IntKind.u16.wrap x84)) then
                              ((x87.1 == (IntKind.u16.wrap x84)))
                            else
                              (false))
                          else
                            (false))
                        else
                          (false))
                      else
                        (false))
                    else
                      (false))
                  else
                    (false))
                else
                  (bif (x63 == 4) then
                    (let x88 := F_law06_awake
                    bif x88 then
                      (let x89 := F_gen_Max p2
                      let x90 := F_gen_Mod p0 (IntKind.i64.wrap (x89 + 1))
                      let x91 := F_blend_Straight 5 x89 (IntKind.u16.wrap x90) x89
                      bif x91.2 then
                        (let x92 := F_blend_Straight 12 0 (IntKind.u16.wrap x90) x89
                        bif x92.2 then
                          (let x93 := F_blend_Straight 1 (IntKind.u16.wrap x90) (IntKind.u16.wrap (x89 - (IntKind.u16.wrap x90))) x89
                          bif x93.2 then
                            (bif (x91.1 == (IntKind.u16.wrap x90)) then
                              (bif (x92.1 == (IntKind.u16.wrap x90)) then
                                ((x93.1 == (IntKind.u16.wrap x90)))
                              else
                                (false))
                            else
                              (false))
                          else
                            (false))
                        else
                          (false))
                      else
                        (false))
                    else
                      (false))
                  else
                    ((tru undef)))))))
        else
          ((tru undef)))) :=
  spell (fun l => tru ((l).getD 0 undef)) (evF Tryd.prog [S_gen_Mod, S_gen_Max, S_blend_Straight, S_law06_awake] 1000 8 (inL A_law06_BlendNeutralColours [.int .u16 p0, .int .i64 p1, .int .i64 p2])) (by kernel_rfl) (by kernel_rfl)

/-! compositor/compositorlaw06.BlendStraightAgrees -/
def A_law06_BlendStraightAgrees : List PS := [.c (.i .i64), .c (.i .u16), .c (.i .u16), .c (.i .u16), .c (.i .i64)]
def R_law06_BlendStraightAgrees : RS := .one (.c (.b))
noncomputable def L_law06_BlendStraightAgrees (vs : List Value) : List Value := (evF Tryd.prog [S_gen_Mod, S_gen_Max, S_blend_Straight, S_ref06_StraightBlend, S_law06_awake] 1000 9 (inL A_law06_BlendStraightAgrees vs)).outL
noncomputable def S_law06_BlendStraightAgrees : Sum := ⟨9, L_law06_BlendStraightAgrees, A_law06_BlendStraightAgrees, R_law06_BlendStraightAgrees⟩
theorem ok_law06_BlendStraightAgrees : SumOK Tryd.prog InvN S_law06_BlendStraightAgrees := sumOK_ev invN_stays (allOK_cons ok_gen_Mod.any (allOK_cons ok_gen_Max.any (allOK_cons ok_blend_Straight.any (allOK_cons ok_ref06_StraightBlend.any (allOK_cons ok_law06_awake allOK_nil))))) 1000 9 A_law06_BlendStraightAgrees R_law06_BlendStraightAgrees (fun _ => by kernel_rfl)
noncomputable def F_law06_BlendStraightAgrees (p0 : Int) (p1 : Int) (p2 : Int) (p3 : Int) (p4 : Int) : Bool := tru ((L_law06_BlendStraightAgrees [.int .i64 p0, .int .u16 p1, .int .u16 p2, .int .u16 p3, .int .i64 p4]).getD 0 undef)
theorem F_law06_BlendStraightAgrees_eq (p0 : Int) (p1 : Int) (p2 : Int) (p3 : Int) (p4 : Int) : F_law06_BlendStraightAgrees p0 p1 p2 p3 p4 =
    let x0 := F_law06_awake
    bif x0 then
      (let x1 := F_gen_Mod p0 14
      let x2 := F_gen_Max p4
      let x3 := F_gen_Mod p1 (IntKind.i64.wrap (x2 + 1))
      let x4 := F_gen_Mod p2 (IntKind.i64.wrap (x2 + 1))
      let x5 := F_blend_Straight x1 (IntKind.u16.wrap x3) (IntKind.u16.wrap x4) x2
      let x6 := F_ref06_StraightBlend x1 (IntKind.u16.wrap x3) (IntKind.u16.wrap x4) x2
      bif (x5.1 == x6.1) then
        (bif (x5.2 == x6.2) then
          (let x7 := F_blend_Straight x1 p1 p2 p3
          let x8 := F_ref06_StraightBlend x1 p1 p2 p3
          bif (x7.1 == x8.1) then
            ((x7.2 == x8.2))
          else
            (false))
        else
          (false))
      else
        (false))
    else
      (false) :=
  spell (fun l => tru ((l).getD 0 undef)) (evF Tryd.prog [S_gen_Mod, S_gen_Max, S_blend_Straight, S_ref06_StraightBlend, S_law06_awake] 1000 9 (inL A_law06_BlendStraightAgrees [.int .i64 p0, .int .u16 p1, .int .u16 p2, .int .u16 p3, .int .i64 p4])) (by kernel_rfl) (by kernel_rfl)

/-! compositor/compositorlaw06.BlendOfTheTransparent -/
def A_law06_BlendOfTheTransparent : List PS := [.c (.i .i64), .agg [.i .i64, .i .i64, .i .i64, .i .i64], .c (.i .i64)]
def R_law06_BlendOfTheTransparent : RS := .one (.c (.b))
noncomputable def L_law06_BlendOfTheTransparent (vs : List Value) : List Value := (evF Tryd.prog [S_gen_Mod, S_gen_Max, S_gen_Alpha, S_blend_Exact, S_law06_rounded, S_law06_awake] 1000 10 (inL A_law06_BlendOfTheTransparent vs)).outL
noncomputable def S_law06_BlendOfTheTransparent : Sum := ⟨10, L_law06_BlendOfTheTransparent, A_law06_BlendOfTheTransparent, R_law06_BlendOfTheTransparent⟩
theorem ok_law06_BlendOfTheTransparent : SumOK Tryd.prog InvN S_law06_BlendOfTheTransparent := sumOK_ev invN_stays (allOK_cons ok_gen_Mod.any (allOK_cons ok_gen_Max.any (allOK_cons ok_gen_Alpha.any (allOK_cons ok_blend_Exact.any (allOK_cons ok_law06_rounded.any (allOK_cons ok_law06_awake allOK_nil)))))) 1000 10 A_law06_BlendOfTheTransparent R_law06_BlendOfTheTransparent (fun _ => by kernel_rfl)
noncomputable def F_law06_BlendOfTheTransparent (p0 : Int) (p1 : Int) (p2 : Int) (p3 : Int) (p4 : Int) (p5 : Int) : Bool := tru ((L_law06_BlendOfTheTransparent [.int .i64 p0, .int .i64 p1, .int .i64 p2, .int .i64 p3, .int .i64 p4, .int .i64 p5]).getD 0 undef)
theorem F_law06_BlendOfTheTransparent_eq (p0 : Int) (p1 : Int) (p2 : Int) (p3 : Int) (p4 : Int) (p5 : Int) : F_law06_BlendOfTheTransparent p0 p1 p2 p3 p4 p5 =
    let x0 := F_law06_awake
    bif x0 then
      (let x1 := F_gen_Mod p0 12
      let x2 := F_gen_Max p5
      let x3 := F_gen_Alpha p3 p4 x2
      let x4 := F_blend_Exact (IntKind.i64.wrap (1 + x1)) 0 0 x3.1 x3.2
      bif x4.2.2.2.2.2 then
        (let x5 := F_blend_Exact (IntKind.i64.wrap (1 + x1)) x3.1 x3.2 0 0
        bif x5.2.2.2.2.2 then
          (let x6 := F_law06_rounded x4.1 x4.2.1 x4.2.2.1 x4.2.2.2.1 x4.2.2.2.2.1
          bif (x6 == 0) then
            (let x7 := F_law06_rounded x5.1 x5.2.1 x5.2.2.1 x5.2.2.2.1 x5.2.2.2.2.1
            (x7 == 0))
          else
            (false))
        else
          (false))
      else
        (false))
    else
      (false) :=
  spell (fun l => tru ((l).getD 0 undef)) (evF Tryd.prog [S_gen_Mod, S_gen_Max, S_gen_Alpha, S_blend_Exact, S_law06_rounded, S_law06_awake] 1000 10 (inL A_law06_BlendOfTheTransparent [.int .i64 p0, .int .i64 p1, .int .i64 p2, .int .i64 p3, .int .i64 p4, .int .i64 p5])) (by kernel_rfl) (by kernel_rfl)
end Go.Proofs.YtiooegkbkahppaaDoor
