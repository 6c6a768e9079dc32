/- Chapter 12: what is told over slices: gen.At, run, GroupStaysValid, GroupIsolatedIsPlain. Printed by a program (gen/Gen.lean); what each function does is told by the evaluator, and the kernel checks it. No condition. -/
import Derived.Test.YtjgmipklbpghfaaDoorSlice
import Derived.Test.YtjgmipklbpghfaaDoorSm12
import Derived.KernelRfl
namespace Go.Proofs.YtjgmipklbpghfaaDoor
open Go.RowKit

/-! compositor/compositorgen.At -/
def A_gen_At : List PS := [.c (.o), .c (.i .i64)]
def R_gen_At : RS := .one (.c (.i .i64))
noncomputable def L_gen_At (mem : Addr → Option Value) : List Value → List Value := Classical.choose (veil fun vs => (evFM ⟨mem, []⟩ Tryd.prog [] 1000 28 (inL A_gen_At vs)).outL)
theorem L_gen_At_is (mem : Addr → Option Value) (vs : List Value) : L_gen_At mem vs = (evFM ⟨mem, []⟩ Tryd.prog [] 1000 28 (inL A_gen_At vs)).outL := Classical.choose_spec (veil fun vs => (evFM ⟨mem, []⟩ Tryd.prog [] 1000 28 (inL A_gen_At vs)).outL) vs
noncomputable def C_gen_At (mem : Addr → Option Value) : CSum := ⟨28, L_gen_At mem, pre_gen_At mem, A_gen_At, R_gen_At⟩
theorem okB_gen_At (mem : Addr → Option Value) (p0 : Value) (p1 : Int) : (evFM ⟨mem, []⟩ Tryd.prog [] 1000 28 (inL A_gen_At [p0, .int .i64 p1])).ok =
    bif (decide (p1 < 0)) then
      (true)
    else
      (let x0 := F_isSl p0
      bif x0 then
        (let x1 := F_len p0
        bif (decide (p1 ≥ x1)) then
          (true)
        else
          (let x2 := F_ixOk p0 p1
          bif x2 then
            (let x3 := F_at 1 p0 p1
            let x4 := F_rdk mem [.i .i64] x3
            bif x4 then
              (true)
            else
              (false))
          else
            (false)))
      else
        (false)) := (okR_eq _).trans (by kernel_rfl)
theorem okG_gen_At (mem : Addr → Option Value) (vs : List Value) : (evFM ⟨mem, []⟩ Tryd.prog [] 1000 28 (inL A_gen_At vs)).good R_gen_At = true := by kernel_rfl
theorem okS_gen_At : AllOK Tryd.prog InvN [] := allOK_nil
theorem ok_gen_At (mem : Cells) : CSumOK Tryd.prog (InvM mem) (C_gen_At mem) :=
  csumOK_partV (invM_stays mem) (memOK_nil mem) (allOK_memory okS_gen_At) 1000 28 A_gen_At R_gen_At (L_gen_At_is mem) (pre_gen_At mem) (okG_gen_At mem) fun vs hk hp => by
    obtain ⟨p0, _, rfl, -, _, _, rfl, ⟨p1, rfl, -, -⟩, rfl⟩ := hk
    refine (okB_gen_At mem p0 p1).trans ?_
    have hp : sliceB mem K1 p0 = true := hp
    by_cases h0 : p1 < 0
    · rw [decide_eq_true h0]
      rfl
    rw [decide_eq_false h0]
    extract_lets x0 x1 x2 x3 x4
    have e0 : x0 = true := slice_isSl hp
    simp only [e0, cond_true, cond_false]
    by_cases h1 : p1 ≥ x1
    · rw [decide_eq_true h1]
      rfl
    have hx := slice_ix hp (show 0 ≤ p1 by omega) (show p1 < F_len p0 from Int.not_le.1 h1)
    have e2 : x2 = true := hx.1
    have e4 : x4 = true := hx.2
    rw [decide_eq_false h1, e2, e4]
    rfl
noncomputable def F_gen_At (mem : Addr → Option Value) (p0 : Value) (p1 : Int) : Int := num ((L_gen_At mem [p0, .int .i64 p1]).getD 0 undef)
theorem F_gen_At_eq (mem : Addr → Option Value) (p0 : Value) (p1 : Int) : F_gen_At mem p0 p1 =
    bif (decide (p1 < 0)) then
      (0)
    else
      (let x0 := F_isSl p0
      bif x0 then
        (let x1 := F_len p0
        bif (decide (p1 ≥ x1)) then
          (0)
        else
          (let x2 := F_ixOk p0 p1
          bif x2 then
            (let x3 := F_at 1 p0 p1
            let x4 := F_rdk mem [.i .i64] x3
            bif x4 then
              (let x5 := F_rd_i64x1 mem x3
              x5)
            else
              ((num undef)))
          else
            ((num undef))))
      else
        ((num undef))) :=
  spellV (L := L_gen_At mem) (fun l => num ((l).getD 0 undef)) (evFM ⟨mem, []⟩ Tryd.prog [] 1000 28 (inL A_gen_At [p0, .int .i64 p1])) (L_gen_At_is mem _) (by kernel_rfl)

/-! compositor/compositorlaw12.run -/
def A_law12_run : List PS := [.c (.b), .c (.i .u16), .c (.o), .c (.o), .agg [.i .u16, .i .u16, .i .u16, .i .u16, .i .u16, .i .u16], .agg [.i .u16, .i .u16, .i .u16, .i .u16, .i .u16]]
def R_law12_run : RS := .tup [.agg [.i .u16, .i .u16, .i .u16, .i .u16, .i .u16, .i .u16], .c (.b)]
noncomputable def L_law12_run (mem : Addr → Option Value) : List Value → List Value := Classical.choose (veil fun vs => (evFM ⟨mem, [C_gen_At mem]⟩ Tryd.prog [S_gen_Mod, S_gen_Pixel, S_group_Valid, S_group_Step] 1000 27 (inL A_law12_run vs)).outL)
theorem L_law12_run_is (mem : Addr → Option Value) (vs : List Value) : L_law12_run mem vs = (evFM ⟨mem, [C_gen_At mem]⟩ Tryd.prog [S_gen_Mod, S_gen_Pixel, S_group_Valid, S_group_Step] 1000 27 (inL A_law12_run vs)).outL := Classical.choose_spec (veil fun vs => (evFM ⟨mem, [C_gen_At mem]⟩ Tryd.prog [S_gen_Mod, S_gen_Pixel, S_group_Valid, S_group_Step] 1000 27 (inL A_law12_run vs)).outL) vs
noncomputable def C_law12_run (mem : Addr → Option Value) : CSum := ⟨27, L_law12_run mem, pre_law12_run mem, A_law12_run, R_law12_run⟩
theorem okB_law12_run (mem : Addr → Option Value) (p0 : Bool) (p1 : Int) (p2 : Value) (p3 : Value) (p4 : Int) (p5 : Int) (p6 : Int) (p7 : Int) (p8 : Int) (p9 : Int) (p10 : Int) (p11 : Int) (p12 : Int) (p13 : Int) (p14 : Int) : (evFM ⟨mem, [C_gen_At mem]⟩ Tryd.prog [S_gen_Mod, S_gen_Pixel, S_group_Valid, S_group_Step] 1000 27 (inL A_law12_run [.bool p0, .int .u16 p1, p2, p3, .int .u16 p4, .int .u16 p5, .int .u16 p6, .int .u16 p7, .int .u16 p8, .int .u16 p9, .int .u16 p10, .int .u16 p11, .int .u16 p12, .int .u16 p13, .int .u16 p14])).ok =
    let x0 := F_isSl p2
    bif x0 then
      (let x1 := F_len p2
      bif (decide (0 < x1)) then
        (let x2 := F_pre_gen_At mem p3 0
        bif x2 then
          (let x3 := F_ixOk p2 0
          bif x3 then
            (let x4 := F_at 5 p2 0
            let x5 := F_rdk mem [.i .i64, .i .i64, .i .i64, .i .i64, .i .i64] x4
            bif x5 then
              (let x6 := F_gen_At mem p3 0
              let x7 := F_gen_Mod x6 12
              let x8 := F_rd_i64x5 mem x4
              let x9 := F_gen_Pixel x8.1 x8.2.1 x8.2.2.1 x8.2.2.2.1 x8.2.2.2.2 p1
              let x10 := F_group_Step p0 4 (IntKind.i64.wrap (1 + x7)) p1 x9.1 x9.2.1 x9.2.2.1 x9.2.2.2.1 x9.2.2.2.2 p4 p5 p6 p7 p8 p9 p10 p11 p12 p13 p14
              bif (!x10.2.2.2.2.2.2) then
                (true)
              else
                (let x11 := F_group_Valid x10.1 x10.2.1 x10.2.2.1 x10.2.2.2.1 x10.2.2.2.2.1 x10.2.2.2.2.2.1 p10 p11 p12 p13 p14 p1
                bif (!x11) then
                  (true)
                else
                  (bif x0 then
                    (bif (decide (1 < x1)) then
                      (let x12 := F_pre_gen_At mem p3 1
                      bif x12 then
                        (let x13 := F_ixOk p2 1
                        bif x13 then
                          (let x14 := F_at 5 p2 1
                          let x15 := F_rdk mem [.i .i64, .i .i64, .i .i64, .i .i64, .i .i64] x14
                          bif x15 then
                            (let x16 := F_gen_At mem p3 1
                            let x17 := F_gen_Mod x16 12
                            let x18 := F_rd_i64x5 mem x14
                            let x19 := F_gen_Pixel x18.1 x18.2.1 x18.2.2.1 x18.2.2.2.1 x18.2.2.2.2 p1
                            let x20 := F_group_Step p0 4 (IntKind.i64.wrap (1 + x17)) p1 x19.1 x19.2.1 x19.2.2.1 x19.2.2.2.1 x19.2.2.2.2 x10.1 x10.2.1 x10.2.2.1 x10.2.2.2.1 x10.2.2.2.2.1 x10.2.2.2.2.2.1 p10 p11 p12 p13 p14
                            bif (!x20.2.2.2.2.2.2) then
                              (true)
                            else
                              (let x21 := F_group_Valid x20.1 x20.2.1 x20.2.2.1 x20.2.2.2.1 x20.2.2.2.2.1 x20.2.2.2.2.2.1 p10 p11 p12 p13 p14 p1
                              bif (!x21) then
                                (true)
                              else
                                (bif x0 then
                                  (bif (decide (2 < x1)) then
                                    (let x22 := F_pre_gen_At mem p3 2
                                    bif x22 then
                                      (let x23 := F_ixOk p2 2
                                      bif x23 then
                                        (let x24 := F_at 5 p2 2
                                        let x25 := F_rdk mem [.i .i64, .i .i64, .i .i64, .i .i64, .i .i64] x24
                                        bif x25 then
                                          (let x26 := F_gen_At mem p3 2
                                          let x27 := F_gen_Mod x26 12
                                          let x28 := F_rd_i64x5 mem x24
                                          let x29 := F_gen_Pixel x28.1 x28.2.1 x28.2.2.1 x28.2.2.2.1 x28.2.2.2.2 p1
                                          let x30 := F_group_Step p0 4 (IntKind.i64.wrap (1 + x27)) p1 x29.1 x29.2.1 x29.2.2.1 x29.2.2.2.1 x29.2.2.2.2 x20.1 x20.2.1 x20.2.2.1 x20.2.2.2.1 x20.2.2.2.2.1 x20.2.2.2.2.2.1 p10 p11 p12 p13 p14
                                          bif (!x30.2.2.2.2.2.2) then
                                            (true)
                                          else
                                            (let x31 := F_group_Valid x30.1 x30.2.1 x30.2.2.1 x30.2.2.2.1 x30.2.2.2.2.1 x30.2.2.2.2.2.1 p10 p11 p12 p13 p14 p1
                                            bif (!x31) then
                                              (true)
                                            else
                                              (bif x0 then
                                                (bif (decide (3 < x1)) then
                                                  (let x32 := F_pre_gen_At mem p3 3
                                                  bif x32 then
                                                    (let x33 := F_ixOk p2 3
                                                    bif x33 then
                                                      (let x34 := F_at 5 p2 3
                                                      let x35 := F_rdk mem [.i .i64, .i .i64, .i .i64, .i .i64, .i .i64] x34
                                                      bif x35 then
                                                        (let x36 := F_gen_At mem p3 3
                                                        let x37 := F_gen_Mod x36 12
                                                        let x38 := F_rd_i64x5 mem x34
                                                        let x39 := F_gen_Pixel x38.1 x38.2.1 x38.2.2.1 x38.2.2.2.1 x38.2.2.2.2 p1
                                                        let x40 := F_group_Step p0 4 (IntKind.i64.wrap (1 + x37)) p1 x39.1 x39.2.1 x39.2.2.1 x39.2.2.2.1 x39.2.2.2.2 x30.1 x30.2.1 x30.2.2.1 x30.2.2.2.1 x30.2.2.2.2.1 x30.2.2.2.2.2.1 p10 p11 p12 p13 p14
                                                        bif (!x40.2.2.2.2.2.2) then
                                                          (true)
                                                        else
                                                          (let x41 := F_group_Valid x40.1 x40.2.1 x40.2.2.1 x40.2.2.2.1 x40.2.2.2.2.1 x40.2.2.2.2.2.1 p10 p11 p12 p13 p14 p1
                                                          bif (!x41) then
                                                            (true)
                                                          else
                                                            (bif x0 then
                                                              (bif (decide (4 < x1)) then
                                                                (let x42 := F_pre_gen_At mem p3 4
                                                                bif x42 then
                                                                  (let x43 := F_ixOk p2 4
                                                                  bif x43 then
                                                                    (let x44 := F_at 5 p2 4
                                                                    let x45 := F_rdk mem [.i .i64, .i .i64, .i .i64, .i .i64, .i .i64] x44
                                                                    bif x45 then
                                                                      (let x46 := F_gen_At mem p3 4
                                                                      let x47 := F_gen_Mod x46 12
                                                                      let x48 := F_rd_i64x5 mem x44
                                                                      let x49 := F_gen_Pixel x48.1 x48.2.1 x48.2.2.1 x48.2.2.2.1 x48.2.2.2.2 p1
                                                                      let x50 := F_group_Step p0 4 (IntKind.i64.wrap (1 + x47)) p1 x49.1 x49.2.1 x49.2.2.1 x49.2.2.2.1 x49.2.2.2.2 x40.1 x40.2.1 x40.2.2.1 x40.2.2.2.1 x40.2.2.2.2.1 x40.2.2.2.2.2.1 p10 p11 p12 p13 p14
                                                                      bif (!x50.2.2.2.2.2.2) then
                                                                        (true)
                                                                      else
                                                                        (let x51 := F_group_Valid x50.1 x50.2.1 x50.2.2.1 x50.2.2.2.1 x50.2.2.2.2.1 x50.2.2.2.2.2.1 p10 p11 p12 p13 p14 p1
                                                                        bif (!x51) then
                                                                          (true)
                                                                        else
                                                                          (bif x0 then
                                                                            (bif (decide (5 < x1)) then
                                                                              (let x52 := F_pre_gen_At mem p3 5
                                                                              bif x52 then
                                                                                (let x53 := F_ixOk p2 5
                                                                                bif x53 then
                                                                                  (let x54 := F_at 5 p2 5
                                                                                  let x55 := F_rdk mem [.i .i64, .i .i64, .i .i64, .i .i64, .i .i64] x54
                                                                                  bif x55 then
                                                                                    (let x56 := F_gen_At mem p3 5
                                                                                    let x57 := F_gen_Mod x56 12
                                                                                    let x58 := F_rd_i64x5 mem x54
                                                                                    let x59 := F_gen_Pixel x58.1 x58.2.1 x58.2.2.1 x58.2.2.2.1 x58.2.2.2.2 p1
                                                                                    let x60 := F_group_Step p0 4 (IntKind.i64.wrap (1 + x57)) p1 x59.1 x59.2.1 x59.2.2.1 x59.2.2.2.1 x59.2.2.2.2 x50.1 x50.2.1 x50.2.2.1 x50.2.2.2.1 x50.2.2.2.2.1 x50.2.2.2.2.2.1 p10 p11 p12 p13 p14
                                                                                    bif (!x60.2.2.2.2.2.2) then
                                                                                      (true)
                                                                                    else
                                                                                      (let x61 := F_group_Valid x60.1 x60.2.1 x60.2.2.1 x60.2.2.2.1 x60.2.2.2.2.1 x60.2.2.2.2.2.1 p10 p11 p12 p13 p14 p1
                                                                                      bif (!x61) then
                                                                                        (true)
                                                                                      else
                                                                                        (bif x0 then
                                                                                          (true)
                                                                                        else
                                                                                          (false))))
                                                                                  else
                                                                                    (false))
                                                                                else
                                                                                  (false))
                                                                              else
                                                                                (false))
                                                                            else
                                                                              (true))
                                                                          else
                                                                            (false))))
                                                                    else
                                                                      (false))
                                                                  else
                                                                    (false))
                                                                else
                                                                  (false))
                                                              else
                                                                (true))
                                                            else
                                                              (false))))
                                                      else
                                                        (false))
                                                    else
                                                      (false))
                                                  else
                                                    (false))
                                                else
                                                  (true))
                                              else
                                                (false))))
                                        else
                                          (false))
                                      else
                                        (false))
                                    else
                                      (false))
                                  else
                                    (true))
                                else
                                  (false))))
                          else
                            (false))
                        else
                          (false))
                      else
                        (false))
                    else
                      (true))
                  else
                    (false))))
            else
              (false))
          else
            (false))
        else
          (false))
      else
        (true))
    else
      (false) := (okR_eq _).trans (by kernel_rfl)
theorem okG_law12_run (mem : Addr → Option Value) (vs : List Value) : (evFM ⟨mem, [C_gen_At mem]⟩ Tryd.prog [S_gen_Mod, S_gen_Pixel, S_group_Valid, S_group_Step] 1000 27 (inL A_law12_run vs)).good R_law12_run = true := by kernel_rfl
theorem okS_law12_run : AllOK Tryd.prog InvN [S_gen_Mod, S_gen_Pixel, S_group_Valid, S_group_Step] := (allOK_cons ok_gen_Mod.any (allOK_cons ok_gen_Pixel (allOK_cons ok_group_Valid (allOK_cons ok_group_Step allOK_nil))))
theorem ok_law12_run (mem : Cells) : CSumOK Tryd.prog (InvM mem) (C_law12_run mem) :=
  csumOK_partV (invM_stays mem) (memOK_cons (ok_gen_At mem) (memOK_nil mem)) (allOK_memory okS_law12_run) 1000 27 A_law12_run R_law12_run (L_law12_run_is mem) (pre_law12_run mem) (okG_law12_run mem) fun vs hk hp => by
    obtain ⟨_, _, rfl, ⟨p0, rfl⟩, _, _, rfl, ⟨p1, rfl, -, -⟩, p2, _, rfl, -, p3, _, rfl, -, _, _, rfl, ⟨p4, rfl, -, -⟩, _, _, rfl, ⟨p5, rfl, -, -⟩, _, _, rfl, ⟨p6, rfl, -, -⟩, _, _, rfl, ⟨p7, rfl, -, -⟩, _, _, rfl, ⟨p8, rfl, -, -⟩, _, _, rfl, ⟨p9, rfl, -, -⟩, _, _, rfl, ⟨p10, rfl, -, -⟩, _, _, rfl, ⟨p11, rfl, -, -⟩, _, _, rfl, ⟨p12, rfl, -, -⟩, _, _, rfl, ⟨p13, rfl, -, -⟩, _, _, rfl, ⟨p14, rfl, -, -⟩, rfl⟩ := hk
    refine (okB_law12_run mem p0 p1 p2 p3 p4 p5 p6 p7 p8 p9 p10 p11 p12 p13 p14).trans ?_
    obtain ⟨hl, ho⟩ := (Bool.and_eq_true _ _).mp (show (sliceB mem K5 p2 && sliceB mem K1 p3) = true from hp)
    extract_lets x0 x1 x2 x3 x4 x5 x6 x7 x8 x9 x10 x11 x12 x13 x14 x15 x16 x17 x18 x19 x20 x21 x22 x23 x24 x25 x26 x27 x28 x29 x30 x31 x32 x33 x34 x35 x36 x37 x38 x39 x40 x41 x42 x43 x44 x45 x46 x47 x48 x49 x50 x51 x52 x53 x54 x55 x56 x57 x58 x59 x60 x61
    have e0 : x0 = true := slice_isSl hl
    simp only [e0, cond_true]
    by_cases h0 : 0 < x1
    case neg =>
      rw [decide_eq_false h0]
      rfl
    have g0 := slice_ix hl (show (0 : Int) ≤ 0 by decide) h0
    have e2 : x2 = true := pre_at ho 0
    have e3 : x3 = true := g0.1
    have e5 : x5 = true := g0.2
    simp only [decide_eq_true h0, e2, e3, e5, cond_true]
    refine cond_t (cond_t ?_)
    by_cases h1 : 1 < x1
    case neg =>
      rw [decide_eq_false h1]
      rfl
    have g1 := slice_ix hl (show (0 : Int) ≤ 1 by decide) h1
    have e12 : x12 = true := pre_at ho 1
    have e13 : x13 = true := g1.1
    have e15 : x15 = true := g1.2
    simp only [decide_eq_true h1, e12, e13, e15, cond_true]
    refine cond_t (cond_t ?_)
    by_cases h2 : 2 < x1
    case neg =>
      rw [decide_eq_false h2]
      rfl
    have g2 := slice_ix hl (show (0 : Int) ≤ 2 by decide) h2
    have e22 : x22 = true := pre_at ho 2
    have e23 : x23 = true := g2.1
    have e25 : x25 = true := g2.2
    simp only [decide_eq_true h2, e22, e23, e25, cond_true]
    refine cond_t (cond_t ?_)
    by_cases h3 : 3 < x1
    case neg =>
      rw [decide_eq_false h3]
      rfl
    have g3 := slice_ix hl (show (0 : Int) ≤ 3 by decide) h3
    have e32 : x32 = true := pre_at ho 3
    have e33 : x33 = true := g3.1
    have e35 : x35 = true := g3.2
    simp only [decide_eq_true h3, e32, e33, e35, cond_true]
    refine cond_t (cond_t ?_)
    by_cases h4 : 4 < x1
    case neg =>
      rw [decide_eq_false h4]
      rfl
    have g4 := slice_ix hl (show (0 : Int) ≤ 4 by decide) h4
    have e42 : x42 = true := pre_at ho 4
    have e43 : x43 = true := g4.1
    have e45 : x45 = true := g4.2
    simp only [decide_eq_true h4, e42, e43, e45, cond_true]
    refine cond_t (cond_t ?_)
    by_cases h5 : 5 < x1
    case neg =>
      rw [decide_eq_false h5]
      rfl
    have g5 := slice_ix hl (show (0 : Int) ≤ 5 by decide) h5
    have e52 : x52 = true := pre_at ho 5
    have e53 : x53 = true := g5.1
    have e55 : x55 = true := g5.2
    simp only [decide_eq_true h5, e52, e53, e55, cond_true]
    refine cond_t (cond_t ?_)
    rfl
noncomputable def F_law12_run (mem : Addr → Option Value) (p0 : Bool) (p1 : Int) (p2 : Value) (p3 : Value) (p4 : Int) (p5 : Int) (p6 : Int) (p7 : Int) (p8 : Int) (p9 : Int) (p10 : Int) (p11 : Int) (p12 : Int) (p13 : Int) (p14 : Int) : Int × Int × Int × Int × Int × Int × Bool := (num ((L_law12_run mem [.bool p0, .int .u16 p1, p2, p3, .int .u16 p4, .int .u16 p5, .int .u16 p6, .int .u16 p7, .int .u16 p8, .int .u16 p9, .int .u16 p10, .int .u16 p11, .int .u16 p12, .int .u16 p13, .int .u16 p14]).getD 0 undef), num ((L_law12_run mem [.bool p0, .int .u16 p1, p2, p3, .int .u16 p4, .int .u16 p5, .int .u16 p6, .int .u16 p7, .int .u16 p8, .int .u16 p9, .int .u16 p10, .int .u16 p11, .int .u16 p12, .int .u16 p13, .int .u16 p14]).getD 1 undef), num ((L_law12_run mem [.bool p0, .int .u16 p1, p2, p3, .int .u16 p4, .int .u16 p5, .int .u16 p6, .int .u16 p7, .int .u16 p8, .int .u16 p9, .int .u16 p10, .int .u16 p11, .int .u16 p12, .int .u16 p13, .int .u16 p14]).getD 2 undef), num ((L_law12_run mem [.bool p0, .int .u16 p1, p2, p3, .int .u16 p4, .int .u16 p5, .int .u16 p6, .int .u16 p7, .int .u16 p8, .int .u16 p9, .int .u16 p10, .int .u16 p11, .int .u16 p12, .int .u16 p13, .int .u16 p14]).getD 3 undef), num ((L_law12_run mem [.bool p0, .int .u16 p1, p2, p3, .int .u16 p4, .int .u16 p5, .int .u16 p6, .int .u16 p7, .int .u16 p8, .int .u16 p9, .int .u16 p10, .int .u16 p11, .int .u16 p12, .int .u16 p13, .int .u16 p14]).getD 4 undef), num ((L_law12_run mem [.bool p0, .int .u16 p1, p2, p3, .int .u16 p4, .int .u16 p5, .int .u16 p6, .int .u16 p7, .int .u16 p8, .int .u16 p9, .int .u16 p10, .int .u16 p11, .int .u16 p12, .int .u16 p13, .int .u16 p14]).getD 5 undef), tru ((L_law12_run mem [.bool p0, .int .u16 p1, p2, p3, .int .u16 p4, .int .u16 p5, .int .u16 p6, .int .u16 p7, .int .u16 p8, .int .u16 p9, .int .u16 p10, .int .u16 p11, .int .u16 p12, .int .u16 p13, .int .u16 p14]).getD 6 undef))
theorem F_law12_run_eq (mem : Addr → Option Value) (p0 : Bool) (p1 : Int) (p2 : Value) (p3 : Value) (p4 : Int) (p5 : Int) (p6 : Int) (p7 : Int) (p8 : Int) (p9 : Int) (p10 : Int) (p11 : Int) (p12 : Int) (p13 : Int) (p14 : Int) : F_law12_run mem p0 p1 p2 p3 p4 p5 p6 p7 p8 p9 p10 p11 p12 p13 p14 =
    let x0 := F_isSl p2
    bif x0 then
      (let x1 := F_len p2
      bif (decide (0 < x1)) then
        (let x2 := F_pre_gen_At mem p3 0
        bif x2 then
          (let x3 := F_ixOk p2 0
          bif x3 then
            (let x4 := F_at 5 p2 0
            let x5 := F_rdk mem [.i .i64, .i .i64, .i .i64, .i .i64, .i .i64] x4
            bif x5 then
              (let x6 := F_gen_At mem p3 0
              let x7 := F_gen_Mod x6 12
              let x8 := F_rd_i64x5 mem x4
              let x9 := F_gen_Pixel x8.1 x8.2.1 x8.2.2.1 x8.2.2.2.1 x8.2.2.2.2 p1
              let x10 := F_group_Step p0 4 (IntKind.i64.wrap (1 + x7)) p1 x9.1 x9.2.1 x9.2.2.1 x9.2.2.2.1 x9.2.2.2.2 p4 p5 p6 p7 p8 p9 p10 p11 p12 p13 p14
              bif (!x10.2.2.2.2.2.2) then
                ((p4, p5, p6, p7, p8, p9, false))
              else
                (let x11 := F_group_Valid x10.1 x10.2.1 x10.2.2.1 x10.2.2.2.1 x10.2.2.2.2.1 x10.2.2.2.2.2.1 p10 p11 p12 p13 p14 p1
                bif (!x11) then
                  ((p4, p5, p6, p7, p8, p9, false))
                else
                  (bif x0 then
                    (bif (decide (1 < x1)) then
                      (let x12 := F_pre_gen_At mem p3 1
                      bif x12 then
                        (let x13 := F_ixOk p2 1
                        bif x13 then
                          (let x14 := F_at 5 p2 1
                          let x15 := F_rdk mem [.i .i64, .i .i64, .i .i64, .i .i64, .i .i64] x14
                          bif x15 then
                            (let x16 := F_gen_At mem p3 1
                            let x17 := F_gen_Mod x16 12
                            let x18 := F_rd_i64x5 mem x14
                            let x19 := F_gen_Pixel x18.1 x18.2.1 x18.2.2.1 x18.2.2.2.1 x18.2.2.2.2 p1
                            let x20 := F_group_Step p0 4 (IntKind.i64.wrap (1 + x17)) p1 x19.1 x19.2.1 x19.2.2.1 x19.2.2.2.1 x19.2.2.2.2 x10.1 x10.2.1 x10.2.2.1 x10.2.2.2.1 x10.2.2.2.2.1 x10.2.2.2.2.2.1 p10 p11 p12 p13 p14
                            bif (!x20.2.2.2.2.2.2) then
                              ((x10.1, x10.2.1, x10.2.2.1, x10.2.2.2.1, x10.2.2.2.2.1, x10.2.2.2.2.2.1, false))
                            else
                              (let x21 := F_group_Valid x20.1 x20.2.1 x20.2.2.1 x20.2.2.2.1 x20.2.2.2.2.1 x20.2.2.2.2.2.1 p10 p11 p12 p13 p14 p1
                              bif (!x21) then
                                ((x10.1, x10.2.1, x10.2.2.1, x10.2.2.2.1, x10.2.2.2.2.1, x10.2.2.2.2.2.1, false))
                              else
                                (bif x0 then
                                  (bif (decide (2 < x1)) then
                                    (let x22 := F_pre_gen_At mem p3 2
                                    bif x22 then
                                      (let x23 := F_ixOk p2 2
                                      bif x23 then
                                        (let x24 := F_at 5 p2 2
                                        let x25 := F_rdk mem [.i .i64, .i .i64, .i .i64, .i .i64, .i .i64] x24
                                        bif x25 then
                                          (let x26 := F_gen_At mem p3 2
                                          let x27 := F_gen_Mod x26 12
                                          let x28 := F_rd_i64x5 mem x24
                                          let x29 := F_gen_Pixel x28.1 x28.2.1 x28.2.2.1 x28.2.2.2.1 x28.2.2.2.2 p1
                                          let x30 := F_group_Step p0 4 (IntKind.i64.wrap (1 + x27)) p1 x29.1 x29.2.1 x29.2.2.1 x29.2.2.2.1 x29.2.2.2.2 x20.1 x20.2.1 x20.2.2.1 x20.2.2.2.1 x20.2.2.2.2.1 x20.2.2.2.2.2.1 p10 p11 p12 p13 p14
                                          bif (!x30.2.2.2.2.2.2) then
                                            ((x20.1, x20.2.1, x20.2.2.1, x20.2.2.2.1, x20.2.2.2.2.1, x20.2.2.2.2.2.1, false))
                                          else
                                            (let x31 := F_group_Valid x30.1 x30.2.1 x30.2.2.1 x30.2.2.2.1 x30.2.2.2.2.1 x30.2.2.2.2.2.1 p10 p11 p12 p13 p14 p1
                                            bif (!x31) then
                                              ((x20.1, x20.2.1, x20.2.2.1, x20.2.2.2.1, x20.2.2.2.2.1, x20.2.2.2.2.2.1, false))
                                            else
                                              (bif x0 then
                                                (bif (decide (3 < x1)) then
                                                  (let x32 := F_pre_gen_At mem p3 3
                                                  bif x32 then
                                                    (let x33 := F_ixOk p2 3
                                                    bif x33 then
                                                      (let x34 := F_at 5 p2 3
                                                      let x35 := F_rdk mem [.i .i64, .i .i64, .i .i64, .i .i64, .i .i64] x34
                                                      bif x35 then
                                                        (let x36 := F_gen_At mem p3 3
                                                        let x37 := F_gen_Mod x36 12
                                                        let x38 := F_rd_i64x5 mem x34
                                                        let x39 := F_gen_Pixel x38.1 x38.2.1 x38.2.2.1 x38.2.2.2.1 x38.2.2.2.2 p1
                                                        let x40 := F_group_Step p0 4 (IntKind.i64.wrap (1 + x37)) p1 x39.1 x39.2.1 x39.2.2.1 x39.2.2.2.1 x39.2.2.2.2 x30.1 x30.2.1 x30.2.2.1 x30.2.2.2.1 x30.2.2.2.2.1 x30.2.2.2.2.2.1 p10 p11 p12 p13 p14
                                                        bif (!x40.2.2.2.2.2.2) then
                                                          ((x30.1, x30.2.1, x30.2.2.1, x30.2.2.2.1, x30.2.2.2.2.1, x30.2.2.2.2.2.1, false))
                                                        else
                                                          (let x41 := F_group_Valid x40.1 x40.2.1 x40.2.2.1 x40.2.2.2.1 x40.2.2.2.2.1 x40.2.2.2.2.2.1 p10 p11 p12 p13 p14 p1
                                                          bif (!x41) then
                                                            ((x30.1, x30.2.1, x30.2.2.1, x30.2.2.2.1, x30.2.2.2.2.1, x30.2.2.2.2.2.1, false))
                                                          else
                                                            (bif x0 then
                                                              (bif (decide (4 < x1)) then
                                                                (let x42 := F_pre_gen_At mem p3 4
                                                                bif x42 then
                                                                  (let x43 := F_ixOk p2 4
                                                                  bif x43 then
                                                                    (let x44 := F_at 5 p2 4
                                                                    let x45 := F_rdk mem [.i .i64, .i .i64, .i .i64, .i .i64, .i .i64] x44
                                                                    bif x45 then
                                                                      (let x46 := F_gen_At mem p3 4
                                                                      let x47 := F_gen_Mod x46 12
                                                                      let x48 := F_rd_i64x5 mem x44
                                                                      let x49 := F_gen_Pixel x48.1 x48.2.1 x48.2.2.1 x48.2.2.2.1 x48.2.2.2.2 p1
                                                                      let x50 := F_group_Step p0 4 (IntKind.i64.wrap (1 + x47)) p1 x49.1 x49.2.1 x49.2.2.1 x49.2.2.2.1 x49.2.2.2.2 x40.1 x40.2.1 x40.2.2.1 x40.2.2.2.1 x40.2.2.2.2.1 x40.2.2.2.2.2.1 p10 p11 p12 p13 p14
                                                                      bif (!x50.2.2.2.2.2.2) then
                                                                        ((x40.1, x40.2.1, x40.2.2.1, x40.2.2.2.1, x40.2.2.2.2.1, x40.2.2.2.2.2.1, false))
                                                                      else
                                                                        (let x51 := F_group_Valid x50.1 x50.2.1 x50.2.2.1 x50.2.2.2.1 x50.2.2.2.2.1 x50.2.2.2.2.2.1 p10 p11 p12 p13 p14 p1
                                                                        bif (!x51) then
                                                                          ((x40.1, x40.2.1, x40.2.2.1, x40.2.2.2.1, x40.2.2.2.2.1, x40.2.2.2.2.2.1, false))
                                                                        else
                                                                          (bif x0 then
                                                                            (bif (decide (5 < x1)) then
                                                                              (let x52 := F_pre_gen_At mem p3 5
                                                                              bif x52 then
                                                                                (let x53 := F_ixOk p2 5
                                                                                bif x53 then
                                                                                  (let x54 := F_at 5 p2 5
                                                                                  let x55 := F_rdk mem [.i .i64, .i .i64, .i .i64, .i .i64, .i .i64] x54
                                                                                  bif x55 then
                                                                                    (let x56 := F_gen_At mem p3 5
                                                                                    let x57 := F_gen_Mod x56 12
                                                                                    let x58 := F_rd_i64x5 mem x54
                                                                                    let x59 := F_gen_Pixel x58.1 x58.2.1 x58.2.2.1 x58.2.2.2.1 x58.2.2.2.2 p1
                                                                                    let x60 := F_group_Step p0 4 (IntKind.i64.wrap (1 + x57)) p1 x59.1 x59.2.1 x59.2.2.1 x59.2.2.2.1 x59.2.2.2.2 x50.1 x50.2.1 x50.2.2.1 x50.2.2.2.1 x50.2.2.2.2.1 x50.2.2.2.2.2.1 p10 p11 p12 p13 p14
                                                                                    bif (!x60.2.2.2.2.2.2) then
                                                                                      ((x50.1, x50.2.1, x50.2.2.1, x50.2.2.2.1, x50.2.2.2.2.1, x50.2.2.2.2.2.1, false))
                                                                                    else
                                                                                      (let x61 := F_group_Valid x60.1 x60.2.1 x60.2.2.1 x60.2.2.2.1 x60.2.2.2.2.1 x60.2.2.2.2.2.1 p10 p11 p12 p13 p14 p1
                                                                                      bif (!x61) then
                                                                                        ((x50.1, x50.2.1, x50.2.2.1, x50.2.2.2.1, x50.2.2.2.2.1, x50.2.2.2.2.2.1, false))
                                                                                      else
                                                                                        (bif x0 then
                                                                                          (bif (decide (6 < x1)) then
                                                                                            ((x60.1, x60.2.1, x60.2.2.1, x60.2.2.2.1, x60.2.2.2.2.1, x60.2.2.2.2.2.1, true))
                                                                                          else
                                                                                            ((x60.1, x60.2.1, x60.2.2.1, x60.2.2.2.1, x60.2.2.2.2.1, x60.2.2.2.2.2.1, true)))
                                                                                        else
                                                                                          (((num undef), (num undef), (num undef), (num undef), (num undef), (num undef), (tru undef))))))
                                                                                  else
                                                                                    (((num undef), (num undef), (num undef), (num undef), (num undef), (num undef), (tru undef))))
                                                                                else
                                                                                  (((num undef), (num undef), (num undef), (num undef), (num undef), (num undef), (tru undef))))
                                                                              else
                                                                                (((num undef), (num undef), (num undef), (num undef), (num undef), (num undef), (tru undef))))
                                                                            else
                                                                              ((x50.1, x50.2.1, x50.2.2.1, x50.2.2.2.1, x50.2.2.2.2.1, x50.2.2.2.2.2.1, true)))
                                                                          else
                                                                            (((num undef), (num undef), (num undef), (num undef), (num undef), (num undef), (tru undef))))))
                                                                    else
                                                                      (((num undef), (num undef), (num undef), (num undef), (num undef), (num undef), (tru undef))))
                                                                  else
                                                                    (((num undef), (num undef), (num undef), (num undef), (num undef), (num undef), (tru undef))))
                                                                else
                                                                  (((num undef), (num undef), (num undef), (num undef), (num undef), (num undef), (tru undef))))
                                                              else
                                                                ((x40.1, x40.2.1, x40.2.2.1, x40.2.2.2.1, x40.2.2.2.2.1, x40.2.2.2.2.2.1, true)))
                                                            else
                                                              (((num undef), (num undef), (num undef), (num undef), (num undef), (num undef), (tru undef))))))
                                                      else
                                                        (((num undef), (num undef), (num undef), (num undef), (num undef), (num undef), (tru undef))))
                                                    else
                                                      (((num undef), (num undef), (num undef), (num undef), (num undef), (num undef), (tru undef))))
                                                  else
                                                    (((num undef), (num undef), (num undef), (num undef), (num undef), (num undef), (tru undef))))
                                                else
                                                  ((x30.1, x30.2.1, x30.2.2.1, x30.2.2.2.1, x30.2.2.2.2.1, x30.2.2.2.2.2.1, true)))
                                              else
                                                (((num undef), (num undef), (num undef), (num undef), (num undef), (num undef), (tru undef))))))
                                        else
                                          (((num undef), (num undef), (num undef), (num undef), (num undef), (num undef), (tru undef))))
                                      else
                                        (((num undef), (num undef), (num undef), (num undef), (num undef), (num undef), (tru undef))))
                                    else
                                      (((num undef), (num undef), (num undef), (num undef), (num undef), (num undef), (tru undef))))
                                  else
                                    ((x20.1, x20.2.1, x20.2.2.1, x20.2.2.2.1, x20.2.2.2.2.1, x20.2.2.2.2.2.1, true)))
                                else
                                  (((num undef), (num undef), (num undef), (num undef), (num undef), (num undef), (tru undef))))))
                          else
                            (((num undef), (num undef), (num undef), (num undef), (num undef), (num undef), (tru undef))))
                        else
                          (((num undef), (num undef), (num undef), (num undef), (num undef), (num undef), (tru undef))))
                      else
                        (((num undef), (num undef), (num undef), (num undef), (num undef), (num undef), (tru undef))))
                    else
                      ((x10.1, x10.2.1, x10.2.2.1, x10.2.2.2.1, x10.2.2.2.2.1, x10.2.2.2.2.2.1, true)))
                  else
                    (((num undef), (num undef), (num undef), (num undef), (num undef), (num undef), (tru undef))))))
            else
              (((num undef), (num undef), (num undef), (num undef), (num undef), (num undef), (tru undef))))
          else
            (((num undef), (num undef), (num undef), (num undef), (num undef), (num undef), (tru undef))))
        else
          (((num undef), (num undef), (num undef), (num undef), (num undef), (num undef), (tru undef))))
      else
        ((p4, p5, p6, p7, p8, p9, true)))
    else
      (((num undef), (num undef), (num undef), (num undef), (num undef), (num undef), (tru undef))) :=
  spellV (L := L_law12_run mem) (fun l => (num ((l).getD 0 undef), num ((l).getD 1 undef), num ((l).getD 2 undef), num ((l).getD 3 undef), num ((l).getD 4 undef), num ((l).getD 5 undef), tru ((l).getD 6 undef))) (evFM ⟨mem, [C_gen_At mem]⟩ Tryd.prog [S_gen_Mod, S_gen_Pixel, S_group_Valid, S_group_Step] 1000 27 (inL A_law12_run [.bool p0, .int .u16 p1, p2, p3, .int .u16 p4, .int .u16 p5, .int .u16 p6, .int .u16 p7, .int .u16 p8, .int .u16 p9, .int .u16 p10, .int .u16 p11, .int .u16 p12, .int .u16 p13, .int .u16 p14])) (L_law12_run_is mem _) (by kernel_rfl)

/-! compositor/compositorlaw12.GroupStaysValid -/
def A_law12_GroupStaysValid : List PS := [.c (.b), .c (.b), .c (.b), .c (.o), .c (.o), .agg [.i .i64, .i .i64, .i .i64, .i .i64, .i .i64], .agg [.i .i64, .i .i64, .i .i64, .i .i64, .i .i64], .c (.i .i64), .c (.i .i64)]
def R_law12_GroupStaysValid : RS := .one (.c (.b))
noncomputable def L_law12_GroupStaysValid (mem : Addr → Option Value) : List Value → List Value := Classical.choose (veil fun vs => (evFM ⟨mem, [C_law12_run mem]⟩ Tryd.prog [S_gen_Max, S_ref01_ValidPixel, S_gen_Back, S_gen_Accum, S_group_Begin, S_group_Result, S_law12_awake] 1000 8 (inL A_law12_GroupStaysValid vs)).outL)
theorem L_law12_GroupStaysValid_is (mem : Addr → Option Value) (vs : List Value) : L_law12_GroupStaysValid mem vs = (evFM ⟨mem, [C_law12_run mem]⟩ Tryd.prog [S_gen_Max, S_ref01_ValidPixel, S_gen_Back, S_gen_Accum, S_group_Begin, S_group_Result, S_law12_awake] 1000 8 (inL A_law12_GroupStaysValid vs)).outL := Classical.choose_spec (veil fun vs => (evFM ⟨mem, [C_law12_run mem]⟩ Tryd.prog [S_gen_Max, S_ref01_ValidPixel, S_gen_Back, S_gen_Accum, S_group_Begin, S_group_Result, S_law12_awake] 1000 8 (inL A_law12_GroupStaysValid vs)).outL) vs
noncomputable def C_law12_GroupStaysValid (mem : Addr → Option Value) : CSum := ⟨8, L_law12_GroupStaysValid mem, pre_law12_GroupStaysValid mem, A_law12_GroupStaysValid, R_law12_GroupStaysValid⟩
theorem okB_law12_GroupStaysValid (mem : Addr → Option Value) (p0 : Bool) (p1 : Bool) (p2 : Bool) (p3 : Value) (p4 : Value) (p5 : Int) (p6 : Int) (p7 : Int) (p8 : Int) (p9 : Int) (p10 : Int) (p11 : Int) (p12 : Int) (p13 : Int) (p14 : Int) (p15 : Int) (p16 : Int) : (evFM ⟨mem, [C_law12_run mem]⟩ Tryd.prog [S_gen_Max, S_ref01_ValidPixel, S_gen_Back, S_gen_Accum, S_group_Begin, S_group_Result, S_law12_awake] 1000 8 (inL A_law12_GroupStaysValid [.bool p0, .bool p1, .bool p2, p3, p4, .int .i64 p5, .int .i64 p6, .int .i64 p7, .int .i64 p8, .int .i64 p9, .int .i64 p10, .int .i64 p11, .int .i64 p12, .int .i64 p13, .int .i64 p14, .int .i64 p15, .int .i64 p16])).ok =
    let x0 := F_gen_Max p16
    let x1 := F_gen_Accum p5 p6 p7 p8 p9 p15 x0
    let x2 := F_gen_Back p10 p11 p12 p13 p14 x0
    let x3 := F_group_Begin p0 p1 x1.1 x1.2.1 x1.2.2.1 x1.2.2.2.1 x1.2.2.2.2.1 x1.2.2.2.2.2 x2.1 x2.2.1 x2.2.2.1 x2.2.2.2.1 x2.2.2.2.2
    let x4 := F_pre_law12_run mem p2 x0 p3 p4 x3.1 x3.2.1 x3.2.2.1 x3.2.2.2.1 x3.2.2.2.2.1 x3.2.2.2.2.2.1 x3.2.2.2.2.2.2.1 x3.2.2.2.2.2.2.2.1 x3.2.2.2.2.2.2.2.2.1 x3.2.2.2.2.2.2.2.2.2.1 x3.2.2.2.2.2.2.2.2.2.2
    bif x4 then
      (true)
    else
      (false) := (okR_eq _).trans (by kernel_rfl)
theorem okG_law12_GroupStaysValid (mem : Addr → Option Value) (vs : List Value) : (evFM ⟨mem, [C_law12_run mem]⟩ Tryd.prog [S_gen_Max, S_ref01_ValidPixel, S_gen_Back, S_gen_Accum, S_group_Begin, S_group_Result, S_law12_awake] 1000 8 (inL A_law12_GroupStaysValid vs)).good R_law12_GroupStaysValid = true := by kernel_rfl
theorem okS_law12_GroupStaysValid : AllOK Tryd.prog InvN [S_gen_Max, S_ref01_ValidPixel, S_gen_Back, S_gen_Accum, S_group_Begin, S_group_Result, S_law12_awake] := (allOK_cons ok_gen_Max.any (allOK_cons ok_ref01_ValidPixel (allOK_cons ok_gen_Back (allOK_cons ok_gen_Accum (allOK_cons ok_group_Begin (allOK_cons ok_group_Result (allOK_cons ok_law12_awake allOK_nil)))))))
theorem ok_law12_GroupStaysValid (mem : Cells) : CSumOK Tryd.prog (InvM mem) (C_law12_GroupStaysValid mem) :=
  csumOK_partV (invM_stays mem) (memOK_cons (ok_law12_run mem) (memOK_nil mem)) (allOK_memory okS_law12_GroupStaysValid) 1000 8 A_law12_GroupStaysValid R_law12_GroupStaysValid (L_law12_GroupStaysValid_is mem) (pre_law12_GroupStaysValid mem) (okG_law12_GroupStaysValid mem) fun vs hk hp => by
    obtain ⟨_, _, rfl, ⟨p0, rfl⟩, _, _, rfl, ⟨p1, rfl⟩, _, _, rfl, ⟨p2, rfl⟩, p3, _, rfl, -, p4, _, rfl, -, _, _, rfl, ⟨p5, rfl, -, -⟩, _, _, rfl, ⟨p6, rfl, -, -⟩, _, _, rfl, ⟨p7, rfl, -, -⟩, _, _, rfl, ⟨p8, rfl, -, -⟩, _, _, rfl, ⟨p9, rfl, -, -⟩, _, _, rfl, ⟨p10, rfl, -, -⟩, _, _, rfl, ⟨p11, rfl, -, -⟩, _, _, rfl, ⟨p12, rfl, -, -⟩, _, _, rfl, ⟨p13, rfl, -, -⟩, _, _, rfl, ⟨p14, rfl, -, -⟩, _, _, rfl, ⟨p15, rfl, -, -⟩, _, _, rfl, ⟨p16, rfl, -, -⟩, rfl⟩ := hk
    refine (okB_law12_GroupStaysValid mem p0 p1 p2 p3 p4 p5 p6 p7 p8 p9 p10 p11 p12 p13 p14 p15 p16).trans ?_
    obtain ⟨hl, ho⟩ := (Bool.and_eq_true _ _).mp (show (sliceB mem K5 p3 && sliceB mem K1 p4) = true from hp)
    extract_lets x0 x1 x2 x3 x4
    have e4 : x4 = true := (Bool.and_eq_true _ _).mpr ⟨hl, ho⟩
    rw [e4]
    rfl
noncomputable def F_law12_GroupStaysValid (mem : Addr → Option Value) (p0 : Bool) (p1 : Bool) (p2 : Bool) (p3 : Value) (p4 : Value) (p5 : Int) (p6 : Int) (p7 : Int) (p8 : Int) (p9 : Int) (p10 : Int) (p11 : Int) (p12 : Int) (p13 : Int) (p14 : Int) (p15 : Int) (p16 : Int) : Bool := tru ((L_law12_GroupStaysValid mem [.bool p0, .bool p1, .bool p2, p3, p4, .int .i64 p5, .int .i64 p6, .int .i64 p7, .int .i64 p8, .int .i64 p9, .int .i64 p10, .int .i64 p11, .int .i64 p12, .int .i64 p13, .int .i64 p14, .int .i64 p15, .int .i64 p16]).getD 0 undef)
theorem F_law12_GroupStaysValid_eq (mem : Addr → Option Value) (p0 : Bool) (p1 : Bool) (p2 : Bool) (p3 : Value) (p4 : Value) (p5 : Int) (p6 : Int) (p7 : Int) (p8 : Int) (p9 : Int) (p10 : Int) (p11 : Int) (p12 : Int) (p13 : Int) (p14 : Int) (p15 : Int) (p16 : Int) : F_law12_GroupStaysValid mem p0 p1 p2 p3 p4 p5 p6 p7 p8 p9 p10 p11 p12 p13 p14 p15 p16 =
    let x0 := F_gen_Max p16
    let x1 := F_gen_Accum p5 p6 p7 p8 p9 p15 x0
    let x2 := F_gen_Back p10 p11 p12 p13 p14 x0
    let x3 := F_group_Begin p0 p1 x1.1 x1.2.1 x1.2.2.1 x1.2.2.2.1 x1.2.2.2.2.1 x1.2.2.2.2.2 x2.1 x2.2.1 x2.2.2.1 x2.2.2.2.1 x2.2.2.2.2
    let x4 := F_pre_law12_run mem p2 x0 p3 p4 x3.1 x3.2.1 x3.2.2.1 x3.2.2.2.1 x3.2.2.2.2.1 x3.2.2.2.2.2.1 x3.2.2.2.2.2.2.1 x3.2.2.2.2.2.2.2.1 x3.2.2.2.2.2.2.2.2.1 x3.2.2.2.2.2.2.2.2.2.1 x3.2.2.2.2.2.2.2.2.2.2
    bif x4 then
      (let x5 := F_law12_awake
      bif x5 then
        (let x6 := F_law12_run mem p2 x0 p3 p4 x3.1 x3.2.1 x3.2.2.1 x3.2.2.2.1 x3.2.2.2.2.1 x3.2.2.2.2.2.1 x3.2.2.2.2.2.2.1 x3.2.2.2.2.2.2.2.1 x3.2.2.2.2.2.2.2.2.1 x3.2.2.2.2.2.2.2.2.2.1 x3.2.2.2.2.2.2.2.2.2.2
        bif x6.2.2.2.2.2.2 then
          (let x7 := F_group_Result x6.1 x6.2.1 x6.2.2.1 x6.2.2.2.1 x6.2.2.2.2.1 x6.2.2.2.2.2.1 x3.2.2.2.2.2.2.1 x3.2.2.2.2.2.2.2.1 x3.2.2.2.2.2.2.2.2.1 x3.2.2.2.2.2.2.2.2.2.1 x3.2.2.2.2.2.2.2.2.2.2 x0
          bif x7.2.2.2.2.2 then
            (let x8 := F_ref01_ValidPixel x7.1 x7.2.1 x7.2.2.1 x7.2.2.2.1 x7.2.2.2.2.1 x0
            x8)
          else
            (false))
        else
          (false))
      else
        (false))
    else
      ((tru undef)) :=
  spellV (L := L_law12_GroupStaysValid mem) (fun l => tru ((l).getD 0 undef)) (evFM ⟨mem, [C_law12_run mem]⟩ Tryd.prog [S_gen_Max, S_ref01_ValidPixel, S_gen_Back, S_gen_Accum, S_group_Begin, S_group_Result, S_law12_awake] 1000 8 (inL A_law12_GroupStaysValid [.bool p0, .bool p1, .bool p2, p3, p4, .int .i64 p5, .int .i64 p6, .int .i64 p7, .int .i64 p8, .int .i64 p9, .int .i64 p10, .int .i64 p11, .int .i64 p12, .int .i64 p13, .int .i64 p14, .int .i64 p15, .int .i64 p16])) (L_law12_GroupStaysValid_is mem _) (by kernel_rfl)

/-! compositor/compositorlaw12.GroupIsolatedIsPlain -/
def A_law12_GroupIsolatedIsPlain : List PS := [.c (.o), .c (.o), .c (.o), .c (.i .i64)]
def R_law12_GroupIsolatedIsPlain : RS := .one (.c (.b))
noncomputable def L_law12_GroupIsolatedIsPlain (mem : Addr → Option Value) : List Value → List Value := Classical.choose (veil fun vs => (evFM ⟨mem, [C_gen_At mem]⟩ Tryd.prog [S_gen_Mod, S_gen_Max, S_gen_Pixel, S_pixel_Composite, S_group_Begin, S_group_Step, S_group_Result, S_law12_awake] 1000 11 (inL A_law12_GroupIsolatedIsPlain vs)).outL)
theorem L_law12_GroupIsolatedIsPlain_is (mem : Addr → Option Value) (vs : List Value) : L_law12_GroupIsolatedIsPlain mem vs = (evFM ⟨mem, [C_gen_At mem]⟩ Tryd.prog [S_gen_Mod, S_gen_Max, S_gen_Pixel, S_pixel_Composite, S_group_Begin, S_group_Step, S_group_Result, S_law12_awake] 1000 11 (inL A_law12_GroupIsolatedIsPlain vs)).outL := Classical.choose_spec (veil fun vs => (evFM ⟨mem, [C_gen_At mem]⟩ Tryd.prog [S_gen_Mod, S_gen_Max, S_gen_Pixel, S_pixel_Composite, S_group_Begin, S_group_Step, S_group_Result, S_law12_awake] 1000 11 (inL A_law12_GroupIsolatedIsPlain vs)).outL) vs
noncomputable def C_law12_GroupIsolatedIsPlain (mem : Addr → Option Value) : CSum := ⟨11, L_law12_GroupIsolatedIsPlain mem, pre_law12_GroupIsolatedIsPlain mem, A_law12_GroupIsolatedIsPlain, R_law12_GroupIsolatedIsPlain⟩
theorem okB_law12_GroupIsolatedIsPlain (mem : Addr → Option Value) (p0 : Value) (p1 : Value) (p2 : Value) (p3 : Int) : (evFM ⟨mem, [C_gen_At mem]⟩ Tryd.prog [S_gen_Mod, S_gen_Max, S_gen_Pixel, S_pixel_Composite, S_group_Begin, S_group_Step, S_group_Result, S_law12_awake] 1000 11 (inL A_law12_GroupIsolatedIsPlain [p0, p1, p2, .int .i64 p3])).ok =
    let x0 := F_isSl p0
    bif x0 then
      (let x1 := F_len p0
      bif (decide (0 < x1)) then
        (let x2 := F_pre_gen_At mem p1 0
        bif x2 then
          (let x3 := F_pre_gen_At mem p2 0
          bif x3 then
            (let x4 := F_ixOk p0 0
            bif x4 then
              (let x5 := F_at 5 p0 0
              let x6 := F_rdk mem [.i .i64, .i .i64, .i .i64, .i .i64, .i .i64] x5
              bif x6 then
                (let x7 := F_gen_At mem p1 0
                let x8 := F_gen_Mod x7 12
                let x9 := F_gen_At mem p2 0
                let x10 := F_gen_Mod x9 12
                let x11 := F_gen_Max p3
                let x12 := F_rd_i64x5 mem x5
                let x13 := F_gen_Pixel x12.1 x12.2.1 x12.2.2.1 x12.2.2.2.1 x12.2.2.2.2 x11
                let x14 := F_group_Begin true false 0 0 0 0 0 0 0 0 0 0 0
                let x15 := F_group_Step false (IntKind.i64.wrap (1 + x8)) (IntKind.i64.wrap (1 + x10)) x11 x13.1 x13.2.1 x13.2.2.1 x13.2.2.2.1 x13.2.2.2.2 x14.1 x14.2.1 x14.2.2.1 x14.2.2.2.1 x14.2.2.2.2.1 x14.2.2.2.2.2.1 x14.2.2.2.2.2.2.1 x14.2.2.2.2.2.2.2.1 x14.2.2.2.2.2.2.2.2.1 x14.2.2.2.2.2.2.2.2.2.1 x14.2.2.2.2.2.2.2.2.2.2
                bif (!x15.2.2.2.2.2.2) then
                  (true)
                else
                  (let x16 := F_pixel_Composite (IntKind.i64.wrap (1 + x8)) (IntKind.i64.wrap (1 + x10)) x11 x13.1 x13.2.1 x13.2.2.1 x13.2.2.2.1 x13.2.2.2.2 0 0 0 0 0
                  bif (!x16.2.2.2.2.2) then
                    (true)
                  else
                    (bif (x15.2.2.2.2.1 != x15.2.2.2.1) then
                      (true)
                    else
                      (bif x0 then
                        (bif (decide (1 < x1)) then
                          (let x17 := F_pre_gen_At mem p1 1
                          bif x17 then
                            (let x18 := F_pre_gen_At mem p2 1
                            bif x18 then
                              (let x19 := F_ixOk p0 1
                              bif x19 then
                                (let x20 := F_at 5 p0 1
                                let x21 := F_rdk mem [.i .i64, .i .i64, .i .i64, .i .i64, .i .i64] x20
                                bif x21 then
                                  (let x22 := F_gen_At mem p1 1
                                  let x23 := F_gen_Mod x22 12
                                  let x24 := F_gen_At mem p2 1
                                  let x25 := F_gen_Mod x24 12
                                  let x26 := F_rd_i64x5 mem x20
                                  let x27 := F_gen_Pixel x26.1 x26.2.1 x26.2.2.1 x26.2.2.2.1 x26.2.2.2.2 x11
                                  let x28 := F_group_Step false (IntKind.i64.wrap (1 + x23)) (IntKind.i64.wrap (1 + x25)) x11 x27.1 x27.2.1 x27.2.2.1 x27.2.2.2.1 x27.2.2.2.2 x15.1 x15.2.1 x15.2.2.1 x15.2.2.2.1 x15.2.2.2.2.1 x15.2.2.2.2.2.1 x14.2.2.2.2.2.2.1 x14.2.2.2.2.2.2.2.1 x14.2.2.2.2.2.2.2.2.1 x14.2.2.2.2.2.2.2.2.2.1 x14.2.2.2.2.2.2.2.2.2.2
                                  bif (!x28.2.2.2.2.2.2) then
                                    (true)
                                  else
                                    (let x29 := F_pixel_Composite (IntKind.i64.wrap (1 + x23)) (IntKind.i64.wrap (1 + x25)) x11 x27.1 x27.2.1 x27.2.2.1 x27.2.2.2.1 x27.2.2.2.2 x16.1 x16.2.1 x16.2.2.1 x16.2.2.2.1 x16.2.2.2.2.1
                                    bif (!x29.2.2.2.2.2) then
                                      (true)
                                    else
                                      (bif (x28.2.2.2.2.1 != x28.2.2.2.1) then
                                        (true)
                                      else
                                        (bif x0 then
                                          (bif (decide (2 < x1)) then
                                            (let x30 := F_pre_gen_At mem p1 2
                                            bif x30 then
                                              (let x31 := F_pre_gen_At mem p2 2
                                              bif x31 then
                                                (let x32 := F_ixOk p0 2
                                                bif x32 then
                                                  (let x33 := F_at 5 p0 2
                                                  let x34 := F_rdk mem [.i .i64, .i .i64, .i .i64, .i .i64, .i .i64] x33
                                                  bif x34 then
                                                    (let x35 := F_gen_At mem p1 2
                                                    let x36 := F_gen_Mod x35 12
                                                    let x37 := F_gen_At mem p2 2
                                                    let x38 := F_gen_Mod x37 12
                                                    let x39 := F_rd_i64x5 mem x33
                                                    let x40 := F_gen_Pixel x39.1 x39.2.1 x39.2.2.1 x39.2.2.2.1 x39.2.2.2.2 x11
                                                    let x41 := F_group_Step false (IntKind.i64.wrap (1 + x36)) (IntKind.i64.wrap (1 + x38)) x11 x40.1 x40.2.1 x40.2.2.1 x40.2.2.2.1 x40.2.2.2.2 x28.1 x28.2.1 x28.2.2.1 x28.2.2.2.1 x28.2.2.2.2.1 x28.2.2.2.2.2.1 x14.2.2.2.2.2.2.1 x14.2.2.2.2.2.2.2.1 x14.2.2.2.2.2.2.2.2.1 x14.2.2.2.2.2.2.2.2.2.1 x14.2.2.2.2.2.2.2.2.2.2
                                                    bif (!x41.2.2.2.2.2.2) then
                                                      (true)
                                                    else
                                                      (let x42 := F_pixel_Composite (IntKind.i64.wrap (1 + x36)) (IntKind.i64.wrap (1 + x38)) x11 x40.1 x40.2.1 x40.2.2.1 x40.2.2.2.1 x40.2.2.2.2 x29.1 x29.2.1 x29.2.2.1 x29.2.2.2.1 x29.2.2.2.2.1
                                                      bif (!x42.2.2.2.2.2) then
                                                        (true)
                                                      else
                                                        (bif (x41.2.2.2.2.1 != x41.2.2.2.1) then
                                                          (true)
                                                        else
                                                          (bif x0 then
                                                            (bif (decide (3 < x1)) then
                                                              (let x43 := F_pre_gen_At mem p1 3
                                                              bif x43 then
                                                                (let x44 := F_pre_gen_At mem p2 3
                                                                bif x44 then
                                                                  (let x45 := F_ixOk p0 3
                                                                  bif x45 then
                                                                    (let x46 := F_at 5 p0 3
                                                                    let x47 := F_rdk mem [.i .i64, .i .i64, .i .i64, .i .i64, .i .i64] x46
                                                                    bif x47 then
                                                                      (let x48 := F_gen_At mem p1 3
                                                                      let x49 := F_gen_Mod x48 12
                                                                      let x50 := F_gen_At mem p2 3
                                                                      let x51 := F_gen_Mod x50 12
                                                                      let x52 := F_rd_i64x5 mem x46
                                                                      let x53 := F_gen_Pixel x52.1 x52.2.1 x52.2.2.1 x52.2.2.2.1 x52.2.2.2.2 x11
                                                                      let x54 := F_group_Step false (IntKind.i64.wrap (1 + x49)) (IntKind.i64.wrap (1 + x51)) x11 x53.1 x53.2.1 x53.2.2.1 x53.2.2.2.1 x53.2.2.2.2 x41.1 x41.2.1 x41.2.2.1 x41.2.2.2.1 x41.2.2.2.2.1 x41.2.2.2.2.2.1 x14.2.2.2.2.2.2.1 x14.2.2.2.2.2.2.2.1 x14.2.2.2.2.2.2.2.2.1 x14.2.2.2.2.2.2.2.2.2.1 x14.2.2.2.2.2.2.2.2.2.2
                                                                      bif (!x54.2.2.2.2.2.2) then
                                                                        (true)
                                                                      else
                                                                        (let x55 := F_pixel_Composite (IntKind.i64.wrap (1 + x49)) (IntKind.i64.wrap (1 + x51)) x11 x53.1 x53.2.1 x53.2.2.1 x53.2.2.2.1 x53.2.2.2.2 x42.1 x42.2.1 x42.2.2.1 x42.2.2.2.1 x42.2.2.2.2.1
                                                                        bif (!x55.2.2.2.2.2) then
                                                                          (true)
                                                                        else
                                                                          (bif (x54.2.2.2.2.1 != x54.2.2.2.1) then
                                                                            (true)
                                                                          else
                                                                            (bif x0 then
                                                                              (bif (decide (4 < x1)) then
                                                                                (let x56 := F_pre_gen_At mem p1 4
                                                                                bif x56 then
                                                                                  (let x57 := F_pre_gen_At mem p2 4
                                                                                  bif x57 then
                                                                                    (let x58 := F_ixOk p0 4
                                                                                    bif x58 then
                                                                                      (let x59 := F_at 5 p0 4
                                                                                      let x60 := F_rdk mem [.i .i64, .i .i64, .i .i64, .i .i64, .i .i64] x59
                                                                                      bif x60 then
                                                                                        (let x61 := F_gen_At mem p1 4
                                                                                        let x62 := F_gen_Mod x61 12
                                                                                        let x63 := F_gen_At mem p2 4
                                                                                        let x64 := F_gen_Mod x63 12
                                                                                        let x65 := F_rd_i64x5 mem x59
                                                                                        let x66 := F_gen_Pixel x65.1 x65.2.1 x65.2.2.1 x65.2.2.2.1 x65.2.2.2.2 x11
                                                                                        let x67 := F_group_Step false (IntKind.i64.wrap (1 + x62)) (IntKind.i64.wrap (1 + x64)) x11 x66.1 x66.2.1 x66.2.2.1 x66.2.2.2.1 x66.2.2.2.2 x54.1 x54.2.1 x54.2.2.1 x54.2.2.2.1 x54.2.2.2.2.1 x54.2.2.2.2.2.1 x14.2.2.2.2.2.2.1 x14.2.2.2.2.2.2.2.1 x14.2.2.2.2.2.2.2.2.1 x14.2.2.2.2.2.2.2.2.2.1 x14.2.2.2.2.2.2.2.2.2.2
                                                                                        bif (!x67.2.2.2.2.2.2) then
                                                                                          (true)
                                                                                        else
                                                                                          (let x68 := F_pixel_Composite (IntKind.i64.wrap (1 + x62)) (IntKind.i64.wrap (1 + x64)) x11 x66.1 x66.2.1 x66.2.2.1 x66.2.2.2.1 x66.2.2.2.2 x55.1 x55.2.1 x55.2.2.1 x55.2.2.2.1 x55.2.2.2.2.1
                                                                                          bif (!x68.2.2.2.2.2) then
                                                                                            (true)
                                                                                          else
                                                                                            (bif (x67.2.2.2.2.1 != x67.2.2.2.1) then
                                                                                              (true)
                                                                                            else
                                                                                              (bif x0 then
                                                                                                (bif (decide (5 < x1)) then
                                                                                                  (let x69 := F_pre_gen_At mem p1 5
                                                                                                  bif x69 then
                                                                                                    (let x70 := F_pre_gen_At mem p2 5
                                                                                                    bif x70 then
                                                                                                      (let x71 := F_ixOk p0 5
                                                                                                      bif x71 then
                                                                                                        (let x72 := F_at 5 p0 5
                                                                                                        let x73 := F_rdk mem [.i .i64, .i .i64, .i .i64, .i .i64, .i .i64] x72
                                                                                                        bif x73 then
                                                                                                          (let x74 := F_gen_At mem p1 5
                                                                                                          let x75 := F_gen_Mod x74 12
                                                                                                          let x76 := F_gen_At mem p2 5
                                                                                                          let x77 := F_gen_Mod x76 12
                                                                                                          let x78 := F_rd_i64x5 mem x72
                                                                                                          let x79 := F_gen_Pixel x78.1 x78.2.1 x78.2.2.1 x78.2.2.2.1 x78.2.2.2.2 x11
                                                                                                          let x80 := F_group_Step false (IntKind.i64.wrap (1 + x75)) (IntKind.i64.wrap (1 + x77)) x11 x79.1 x79.2.1 x79.2.2.1 x79.2.2.2.1 x79.2.2.2.2 x67.1 x67.2.1 x67.2.2.1 x67.2.2.2.1 x67.2.2.2.2.1 x67.2.2.2.2.2.1 x14.2.2.2.2.2.2.1 x14.2.2.2.2.2.2.2.1 x14.2.2.2.2.2.2.2.2.1 x14.2.2.2.2.2.2.2.2.2.1 x14.2.2.2.2.2.2.2.2.2.2
                                                                                                          bif (!x80.2.2.2.2.2.2) then
                                                                                                            (true)
                                                                                                          else
                                                                                                            (let x81 := F_pixel_Composite (IntKind.i64.wrap (1 + x75)) (IntKind.i64.wrap (1 + x77)) x11 x79.1 x79.2.1 x79.2.2.1 x79.2.2.2.1 x79.2.2.2.2 x68.1 x68.2.1 x68.2.2.1 x68.2.2.2.1 x68.2.2.2.2.1
                                                                                                            bif (!x81.2.2.2.2.2) then
                                                                                                              (true)
                                                                                                            else
                                                                                                              (bif (x80.2.2.2.2.1 != x80.2.2.2.1) then
                                                                                                                (true)
                                                                                                              else
                                                                                                                (bif x0 then
                                                                                                                  (bif (decide (6 < x1)) then
                                                                                                                    (let x82 := F_pre_gen_At mem p1 6
                                                                                                                    bif x82 then
                                                                                                                      (let x83 := F_pre_gen_At mem p2 6
                                                                                                                      bif x83 then
                                                                                                                        (let x84 := F_ixOk p0 6
                                                                                                                        bif x84 then
                                                                                                                          (let x85 := F_at 5 p0 6
                                                                                                                          let x86 := F_rdk mem [.i .i64, .i .i64, .i .i64, .i .i64, .i .i64] x85
                                                                                                                          bif x86 then
                                                                                                                            (let x87 := F_gen_At mem p1 6
                                                                                                                            let x88 := F_gen_Mod x87 12
                                                                                                                            let x89 := F_gen_At mem p2 6
                                                                                                                            let x90 := F_gen_Mod x89 12
                                                                                                                            let x91 := F_rd_i64x5 mem x85
                                                                                                                            let x92 := F_gen_Pixel x91.1 x91.2.1 x91.2.2.1 x91.2.2.2.1 x91.2.2.2.2 x11
                                                                                                                            let x93 := F_group_Step false (IntKind.i64.wrap (1 + x88)) (IntKind.i64.wrap (1 + x90)) x11 x92.1 x92.2.1 x92.2.2.1 x92.2.2.2.1 x92.2.2.2.2 x80.1 x80.2.1 x80.2.2.1 x80.2.2.2.1 x80.2.2.2.2.1 x80.2.2.2.2.2.1 x14.2.2.2.2.2.2.1 x14.2.2.2.2.2.2.2.1 x14.2.2.2.2.2.2.2.2.1 x14.2.2.2.2.2.2.2.2.2.1 x14.2.2.2.2.2.2.2.2.2.2
                                                                                                                            bif (!x93.2.2.2.2.2.2) then
                                                                                                                              (true)
                                                                                                                            else
                                                                                                                              (let x94 := F_pixel_Composite (IntKind.i64.wrap (1 + x88)) (IntKind.i64.wrap (1 + x90)) x11 x92.1 x92.2.1 x92.2.2.1 x92.2.2.2.1 x92.2.2.2.2 x81.1 x81.2.1 x81.2.2.1 x81.2.2.2.1 x81.2.2.2.2.1
                                                                                                                              bif (!x94.2.2.2.2.2) then
                                                                                                                                (true)
                                                                                                                              else
                                                                                                                                (bif (x93.2.2.2.2.1 != x93.2.2.2.1) then
                                                                                                                                  (true)
                                                                                                                                else
                                                                                                                                  (bif x0 then
                                                                                                                                    (bif (decide (7 < x1)) then
                                                                                                                                      (let x95 := F_pre_gen_At mem p1 7
                                                                                                                                      bif x95 then
                                                                                                                                        (let x96 := F_pre_gen_At mem p2 7
                                                                                                                                        bif x96 then
                                                                                                                                          (let x97 := F_ixOk p0 7
                                                                                                                                          bif x97 then
                                                                                                                                            (let x98 := F_at 5 p0 7
                                                                                                                                            let x99 := F_rdk mem [.i .i64, .i .i64, .i .i64, .i .i64, .i .i64] x98
                                                                                                                                            bif x99 then
                                                                                                                                              (let x100 := F_gen_At mem p1 7
                                                                                                                                              let x101 := F_gen_Mod x100 12
                                                                                                                                              let x102 := F_gen_At mem p2 7
                                                                                                                                              let x103 := F_gen_Mod x102 12
                                                                                                                                              let x104 := F_rd_i64x5 mem x98
                                                                                                                                              let x105 := F_gen_Pixel x104.1 x104.2.1 x104.2.2.1 x104.2.2.2.1 x104.2.2.2.2 x11
                                                                                                                                              let x106 := F_group_Step false (IntKind.i64.wrap (1 + x101)) (IntKind.i64.wrap (1 + x103)) x11 x105.1 x105.2.1 x105.2.2.1 x105.2.2.2.1 x105.2.2.2.2 x93.1 x93.2.1 x93.2.2.1 x93.2.2.2.1 x93.2.2.2.2.1 x93.2.2.2.2.2.1 x14.2.2.2.2.2.2.1 x14.2.2.2.2.2.2.2.1 x14.2.2.2.2.2.2.2.2.1 x14.2.2.2.2.2.2.2.2.2.1 x14.2.2.2.2.2.2.2.2.2.2
                                                                                                                                              bif (!x106.2.2.2.2.2.2) then
                                                                                                                                                (true)
                                                                                                                                              else
                                                                                                                                                (let x107 := F_pixel_Composite (IntKind.i64.wrap (1 + x101)) (IntKind.i64.wrap (1 + x103)) x11 x105.1 x105.2.1 x105.2.2.1 x105.2.2.2.1 x105.2.2.2.2 x94.1 x94.2.1 x94.2.2.1 x94.2.2.2.1 x94.2.2.2.2.1
                                                                                                                                                bif (!x107.2.2.2.2.2) then
                                                                                                                                                  (true)
                                                                                                                                                else
                                                                                                                                                  (bif (x106.2.2.2.2.1 != x106.2.2.2.1) then
                                                                                                                                                    (true)
                                                                                                                                                  else
                                                                                                                                                    (bif x0 then
                                                                                                                                                      (true)
                                                                                                                                                    else
                                                                                                                                                      (false)))))
                                                                                                                                            else
                                                                                                                                              (false))
                                                                                                                                          else
                                                                                                                                            (false))
                                                                                                                                        else
                                                                                                                                          (false))
                                                                                                                                      else
                                                                                                                                        (false))
                                                                                                                                    else
                                                                                                                                      (true))
                                                                                                                                  else
                                                                                                                                    (false)))))
                                                                                                                          else
                                                                                                                            (false))
                                                                                                                        else
                                                                                                                          (false))
                                                                                                                      else
                                                                                                                        (false))
                                                                                                                    else
                                                                                                                      (false))
                                                                                                                  else
                                                                                                                    (true))
                                                                                                                else
                                                                                                                  (false)))))
                                                                                                        else
                                                                                                          (false))
                                                                                                      else
                                                                                                        (false))
                                                                                                    else
                                                                                                      (false))
                                                                                                  else
                                                                                                    (false))
                                                                                                else
                                                                                                  (true))
                                                                                              else
                                                                                                (false)))))
                                                                                      else
                                                                                        (false))
                                                                                    else
                                                                                      (false))
                                                                                  else
                                                                                    (false))
                                                                                else
                                                                                  (false))
                                                                              else
                                                                                (true))
                                                                            else
                                                                              (false)))))
                                                                    else
                                                                      (false))
                                                                  else
                                                                    (false))
                                                                else
                                                                  (false))
                                                              else
                                                                (false))
                                                            else
                                                              (true))
                                                          else
                                                            (false)))))
                                                  else
                                                    (false))
                                                else
                                                  (false))
                                              else
                                                (false))
                                            else
                                              (false))
                                          else
                                            (true))
                                        else
                                          (false)))))
                                else
                                  (false))
                              else
                                (false))
                            else
                              (false))
                          else
                            (false))
                        else
                          (true))
                      else
                        (false)))))
              else
                (false))
            else
              (false))
          else
            (false))
        else
          (false))
      else
        (true))
    else
      (false) := (okR_eq _).trans (by kernel_rfl)
theorem okG_law12_GroupIsolatedIsPlain (mem : Addr → Option Value) (vs : List Value) : (evFM ⟨mem, [C_gen_At mem]⟩ Tryd.prog [S_gen_Mod, S_gen_Max, S_gen_Pixel, S_pixel_Composite, S_group_Begin, S_group_Step, S_group_Result, S_law12_awake] 1000 11 (inL A_law12_GroupIsolatedIsPlain vs)).good R_law12_GroupIsolatedIsPlain = true := by kernel_rfl
theorem okS_law12_GroupIsolatedIsPlain : AllOK Tryd.prog InvN [S_gen_Mod, S_gen_Max, S_gen_Pixel, S_pixel_Composite, S_group_Begin, S_group_Step, S_group_Result, S_law12_awake] := (allOK_cons ok_gen_Mod.any (allOK_cons ok_gen_Max.any (allOK_cons ok_gen_Pixel (allOK_cons ok_pixel_Composite (allOK_cons ok_group_Begin (allOK_cons ok_group_Step (allOK_cons ok_group_Result (allOK_cons ok_law12_awake allOK_nil))))))))
theorem ok_law12_GroupIsolatedIsPlain (mem : Cells) : CSumOK Tryd.prog (InvM mem) (C_law12_GroupIsolatedIsPlain mem) :=
  csumOK_partV (invM_stays mem) (memOK_cons (ok_gen_At mem) (memOK_nil mem)) (allOK_memory okS_law12_GroupIsolatedIsPlain) 1000 11 A_law12_GroupIsolatedIsPlain R_law12_GroupIsolatedIsPlain (L_law12_GroupIsolatedIsPlain_is mem) (pre_law12_GroupIsolatedIsPlain mem) (okG_law12_GroupIsolatedIsPlain mem) fun vs hk hp => by
    obtain ⟨p0, _, rfl, -, p1, _, rfl, -, p2, _, rfl, -, _, _, rfl, ⟨p3, rfl, -, -⟩, rfl⟩ := hk
    refine (okB_law12_GroupIsolatedIsPlain mem p0 p1 p2 p3).trans ?_
    obtain ⟨hlo, hk⟩ := (Bool.and_eq_true _ _).mp (show (sliceB mem K5 p0 && sliceB mem K1 p1 && sliceB mem K1 p2) = true from hp)
    obtain ⟨hl, ho⟩ := (Bool.and_eq_true _ _).mp hlo
    extract_lets x0 x1 x2 x3 x4 x5 x6 x7 x8 x9 x10 x11 x12 x13 x14 x15 x16 x17 x18 x19 x20 x21 x22 x23 x24 x25 x26 x27 x28 x29 x30 x31 x32 x33 x34 x35 x36 x37 x38 x39 x40 x41 x42 x43 x44 x45 x46 x47 x48 x49 x50 x51 x52 x53 x54 x55 x56 x57 x58 x59 x60 x61 x62 x63 x64 x65 x66 x67 x68 x69 x70 x71 x72 x73 x74 x75 x76 x77 x78 x79 x80 x81 x82 x83 x84 x85 x86 x87 x88 x89 x90 x91 x92 x93 x94 x95 x96 x97 x98 x99 x100 x101 x102 x103 x104 x105 x106 x107
    have e0 : x0 = true := slice_isSl hl
    simp only [e0, cond_true]
    by_cases h0 : 0 < x1
    case neg =>
      rw [decide_eq_false h0]
      rfl
    have g0 := slice_ix hl (show (0 : Int) ≤ 0 by decide) h0
    have ex2 : x2 = true := pre_at ho 0
    have ex3 : x3 = true := pre_at hk 0
    have ex4 : x4 = true := g0.1
    have ex6 : x6 = true := g0.2
    simp only [decide_eq_true h0, ex2, ex3, ex4, ex6, cond_true]
    refine cond_t (cond_t (cond_t ?_))
    by_cases h1 : 1 < x1
    case neg =>
      rw [decide_eq_false h1]
      rfl
    have g1 := slice_ix hl (show (0 : Int) ≤ 1 by decide) h1
    have ex17 : x17 = true := pre_at ho 1
    have ex18 : x18 = true := pre_at hk 1
    have ex19 : x19 = true := g1.1
    have ex21 : x21 = true := g1.2
    simp only [decide_eq_true h1, ex17, ex18, ex19, ex21, cond_true]
    refine cond_t (cond_t (cond_t ?_))
    by_cases h2 : 2 < x1
    case neg =>
      rw [decide_eq_false h2]
      rfl
    have g2 := slice_ix hl (show (0 : Int) ≤ 2 by decide) h2
    have ex30 : x30 = true := pre_at ho 2
    have ex31 : x31 = true := pre_at hk 2
    have ex32 : x32 = true := g2.1
    have ex34 : x34 = true := g2.2
    simp only [decide_eq_true h2, ex30, ex31, ex32, ex34, cond_true]
    refine cond_t (cond_t (cond_t ?_))
    by_cases h3 : 3 < x1
    case neg =>
      rw [decide_eq_false h3]
      rfl
    have g3 := slice_ix hl (show (0 : Int) ≤ 3 by decide) h3
    have ex43 : x43 = true := pre_at ho 3
    have ex44 : x44 = true := pre_at hk 3
    have ex45 : x45 = true := g3.1
    have ex47 : x47 = true := g3.2
    simp only [decide_eq_true h3, ex43, ex44, ex45, ex47, cond_true]
    refine cond_t (cond_t (cond_t ?_))
    by_cases h4 : 4 < x1
    case neg =>
      rw [decide_eq_false h4]
      rfl
    have g4 := slice_ix hl (show (0 : Int) ≤ 4 by decide) h4
    have ex56 : x56 = true := pre_at ho 4
    have ex57 : x57 = true := pre_at hk 4
    have ex58 : x58 = true := g4.1
    have ex60 : x60 = true := g4.2
    simp only [decide_eq_true h4, ex56, ex57, ex58, ex60, cond_true]
    refine cond_t (cond_t (cond_t ?_))
    by_cases h5 : 5 < x1
    case neg =>
      rw [decide_eq_false h5]
      rfl
    have g5 := slice_ix hl (show (0 : Int) ≤ 5 by decide) h5
    have ex69 : x69 = true := pre_at ho 5
    have ex70 : x70 = true := pre_at hk 5
    have ex71 : x71 = true := g5.1
    have ex73 : x73 = true := g5.2
    simp only [decide_eq_true h5, ex69, ex70, ex71, ex73, cond_true]
    refine cond_t (cond_t (cond_t ?_))
    by_cases h6 : 6 < x1
    case neg =>
      rw [decide_eq_false h6]
      rfl
    have g6 := slice_ix hl (show (0 : Int) ≤ 6 by decide) h6
    have ex82 : x82 = true := pre_at ho 6
    have ex83 : x83 = true := pre_at hk 6
    have ex84 : x84 = true := g6.1
    have ex86 : x86 = true := g6.2
    simp only [decide_eq_true h6, ex82, ex83, ex84, ex86, cond_true]
    refine cond_t (cond_t (cond_t ?_))
    by_cases h7 : 7 < x1
    case neg =>
      rw [decide_eq_false h7]
      rfl
    have g7 := slice_ix hl (show (0 : Int) ≤ 7 by decide) h7
    have ex95 : x95 = true := pre_at ho 7
    have ex96 : x96 = true := pre_at hk 7
    have ex97 : x97 = true := g7.1
    have ex99 : x99 = true := g7.2
    simp only [decide_eq_true h7, ex95, ex96, ex97, ex99, cond_true]
    refine cond_t (cond_t (cond_t ?_))
    rfl
noncomputable def F_law12_GroupIsolatedIsPlain (mem : Addr → Option Value) (p0 : Value) (p1 : Value) (p2 : Value) (p3 : Int) : Bool := tru ((L_law12_GroupIsolatedIsPlain mem [p0, p1, p2, .int .i64 p3]).getD 0 undef)
theorem F_law12_GroupIsolatedIsPlain_eq (mem : Addr → Option Value) (p0 : Value) (p1 : Value) (p2 : Value) (p3 : Int) : F_law12_GroupIsolatedIsPlain mem p0 p1 p2 p3 =
    let x0 := F_isSl p0
    bif x0 then
      (let x1 := F_len p0
      bif (decide (0 < x1)) then
        (let x2 := F_pre_gen_At mem p1 0
        bif x2 then
          (let x3 := F_pre_gen_At mem p2 0
          bif x3 then
            (let x4 := F_ixOk p0 0
            bif x4 then
              (let x5 := F_at 5 p0 0
              let x6 := F_rdk mem [.i .i64, .i .i64, .i .i64, .i .i64, .i .i64] x5
              bif x6 then
                (let x7 := F_gen_At mem p1 0
                let x8 := F_gen_Mod x7 12
                let x9 := F_gen_At mem p2 0
                let x10 := F_gen_Mod x9 12
                let x11 := F_gen_Max p3
                let x12 := F_rd_i64x5 mem x5
                let x13 := F_gen_Pixel x12.1 x12.2.1 x12.2.2.1 x12.2.2.2.1 x12.2.2.2.2 x11
                let x14 := F_group_Begin true false 0 0 0 0 0 0 0 0 0 0 0
                let x15 := F_group_Step false (IntKind.i64.wrap (1 + x8)) (IntKind.i64.wrap (1 + x10)) x11 x13.1 x13.2.1 x13.2.2.1 x13.2.2.2.1 x13.2.2.2.2 x14.1 x14.2.1 x14.2.2.1 x14.2.2.2.1 x14.2.2.2.2.1 x14.2.2.2.2.2.1 x14.2.2.2.2.2.2.1 x14.2.2.2.2.2.2.2.1 x14.2.2.2.2.2.2.2.2.1 x14.2.2.2.2.2.2.2.2.2.1 x14.2.2.2.2.2.2.2.2.2.2
                bif (!x15.2.2.2.2.2.2) then
                  (false)
                else
                  (let x16 := F_pixel_Composite (IntKind.i64.wrap (1 + x8)) (IntKind.i64.wrap (1 + x10)) x11 x13.1 x13.2.1 x13.2.2.1 x13.2.2.2.1 x13.2.2.2.2 0 0 0 0 0
                  bif (!x16.2.2.2.2.2) then
                    (false)
                  else
                    (bif (x15.2.2.2.2.1 != x15.2.2.2.1) then
                      (false)
                    else
                      (bif x0 then
                        (bif (decide (1 < x1)) then
                          (let x17 := F_pre_gen_At mem p1 1
                          bif x17 then
                            (let x18 := F_pre_gen_At mem p2 1
                            bif x18 then
                              (let x19 := F_ixOk p0 1
                              bif x19 then
                                (let x20 := F_at 5 p0 1
                                let x21 := F_rdk mem [.i .i64, .i .i64, .i .i64, .i .i64, .i .i64] x20
                                bif x21 then
                                  (let x22 := F_gen_At mem p1 1
                                  let x23 := F_gen_Mod x22 12
                                  let x24 := F_gen_At mem p2 1
                                  let x25 := F_gen_Mod x24 12
                                  let x26 := F_rd_i64x5 mem x20
                                  let x27 := F_gen_Pixel x26.1 x26.2.1 x26.2.2.1 x26.2.2.2.1 x26.2.2.2.2 x11
                                  let x28 := F_group_Step false (IntKind.i64.wrap (1 + x23)) (IntKind.i64.wrap (1 + x25)) x11 x27.1 x27.2.1 x27.2.2.1 x27.2.2.2.1 x27.2.2.2.2 x15.1 x15.2.1 x15.2.2.1 x15.2.2.2.1 x15.2.2.2.2.1 x15.2.2.2.2.2.1 x14.2.2.2.2.2.2.1 x14.2.2.2.2.2.2.2.1 x14.2.2.2.2.2.2.2.2.1 x14.2.2.2.2.2.2.2.2.2.1 x14.2.2.2.2.2.2.2.2.2.2
                                  bif (!x28.2.2.2.2.2.2) then
                                    (false)
                                  else
                                    (let x29 := F_pixel_Composite (IntKind.i64.wrap (1 + x23)) (IntKind.i64.wrap (1 + x25)) x11 x27.1 x27.2.1 x27.2.2.1 x27.2.2.2.1 x27.2.2.2.2 x16.1 x16.2.1 x16.2.2.1 x16.2.2.2.1 x16.2.2.2.2.1
                                    bif (!x29.2.2.2.2.2) then
                                      (false)
                                    else
                                      (bif (x28.2.2.2.2.1 != x28.2.2.2.1) then
                                        (false)
                                      else
                                        (bif x0 then
                                          (bif (decide (2 < x1)) then
                                            (let x30 := F_pre_gen_At mem p1 2
                                            bif x30 then
                                              (let x31 := F_pre_gen_At mem p2 2
                                              bif x31 then
                                                (let x32 := F_ixOk p0 2
                                                bif x32 then
                                                  (let x33 := F_at 5 p0 2
                                                  let x34 := F_rdk mem [.i .i64, .i .i64, .i .i64, .i .i64, .i .i64] x33
                                                  bif x34 then
                                                    (let x35 := F_gen_At mem p1 2
                                                    let x36 := F_gen_Mod x35 12
                                                    let x37 := F_gen_At mem p2 2
                                                    let x38 := F_gen_Mod x37 12
                                                    let x39 := F_rd_i64x5 mem x33
                                                    let x40 := F_gen_Pixel x39.1 x39.2.1 x39.2.2.1 x39.2.2.2.1 x39.2.2.2.2 x11
                                                    let x41 := F_group_Step false (IntKind.i64.wrap (1 + x36)) (IntKind.i64.wrap (1 + x38)) x11 x40.1 x40.2.1 x40.2.2.1 x40.2.2.2.1 x40.2.2.2.2 x28.1 x28.2.1 x28.2.2.1 x28.2.2.2.1 x28.2.2.2.2.1 x28.2.2.2.2.2.1 x14.2.2.2.2.2.2.1 x14.2.2.2.2.2.2.2.1 x14.2.2.2.2.2.2.2.2.1 x14.2.2.2.2.2.2.2.2.2.1 x14.2.2.2.2.2.2.2.2.2.2
                                                    bif (!x41.2.2.2.2.2.2) then
                                                      (false)
                                                    else
                                                      (let x42 := F_pixel_Composite (IntKind.i64.wrap (1 + x36)) (IntKind.i64.wrap (1 + x38)) x11 x40.1 x40.2.1 x40.2.2.1 x40.2.2.2.1 x40.2.2.2.2 x29.1 x29.2.1 x29.2.2.1 x29.2.2.2.1 x29.2.2.2.2.1
                                                      bif (!x42.2.2.2.2.2) then
                                                        (false)
                                                      else
                                                        (bif (x41.2.2.2.2.1 != x41.2.2.2.1) then
                                                          (false)
                                                        else
                                                          (bif x0 then
                                                            (bif (decide (3 < x1)) then
                                                              (let x43 := F_pre_gen_At mem p1 3
                                                              bif x43 then
                                                                (let x44 := F_pre_gen_At mem p2 3
                                                                bif x44 then
                                                                  (let x45 := F_ixOk p0 3
                                                                  bif x45 then
                                                                    (let x46 := F_at 5 p0 3
                                                                    let x47 := F_rdk mem [.i .i64, .i .i64, .i .i64, .i .i64, .i .i64] x46
                                                                    bif x47 then
                                                                      (let x48 := F_gen_At mem p1 3
                                                                      let x49 := F_gen_Mod x48 12
                                                                      let x50 := F_gen_At mem p2 3
                                                                      let x51 := F_gen_Mod x50 12
                                                                      let x52 := F_rd_i64x5 mem x46
                                                                      let x53 := F_gen_Pixel x52.1 x52.2.1 x52.2.2.1 x52.2.2.2.1 x52.2.2.2.2 x11
                                                                      let x54 := F_group_Step false (IntKind.i64.wrap (1 + x49)) (IntKind.i64.wrap (1 + x51)) x11 x53.1 x53.2.1 x53.2.2.1 x53.2.2.2.1 x53.2.2.2.2 x41.1 x41.2.1 x41.2.2.1 x41.2.2.2.1 x41.2.2.2.2.1 x41.2.2.2.2.2.1 x14.2.2.2.2.2.2.1 x14.2.2.2.2.2.2.2.1 x14.2.2.2.2.2.2.2.2.1 x14.2.2.2.2.2.2.2.2.2.1 x14.2.2.2.2.2.2.2.2.2.2
                                                                      bif (!x54.2.2.2.2.2.2) then
                                                                        (false)
                                                                      else
                                                                        (let x55 := F_pixel_Composite (IntKind.i64.wrap (1 + x49)) (IntKind.i64.wrap (1 + x51)) x11 x53.1 x53.2.1 x53.2.2.1 x53.2.2.2.1 x53.2.2.2.2 x42.1 x42.2.1 x42.2.2.1 x42.2.2.2.1 x42.2.2.2.2.1
                                                                        bif (!x55.2.2.2.2.2) then
                                                                          (false)
                                                                        else
                                                                          (bif (x54.2.2.2.2.1 != x54.2.2.2.1) then
                                                                            (false)
                                                                          else
                                                                            (bif x0 then
                                                                              (bif (decide (4 < x1)) then
                                                                                (let x56 := F_pre_gen_At mem p1 4
                                                                                bif x56 then
                                                                                  (let x57 := F_pre_gen_At mem p2 4
                                                                                  bif x57 then
                                                                                    (let x58 := F_ixOk p0 4
                                                                                    bif x58 then
                                                                                      (let x59 := F_at 5 p0 4
                                                                                      let x60 := F_rdk mem [.i .i64, .i .i64, .i .i64, .i .i64, .i .i64] x59
                                                                                      bif x60 then
                                                                                        (let x61 := F_gen_At mem p1 4
                                                                                        let x62 := F_gen_Mod x61 12
                                                                                        let x63 := F_gen_At mem p2 4
                                                                                        let x64 := F_gen_Mod x63 12
                                                                                        let x65 := F_rd_i64x5 mem x59
                                                                                        let x66 := F_gen_Pixel x65.1 x65.2.1 x65.2.2.1 x65.2.2.2.1 x65.2.2.2.2 x11
                                                                                        let x67 := F_group_Step false (IntKind.i64.wrap (1 + x62)) (IntKind.i64.wrap (1 + x64)) x11 x66.1 x66.2.1 x66.2.2.1 x66.2.2.2.1 x66.2.2.2.2 x54.1 x54.2.1 x54.2.2.1 x54.2.2.2.1 x54.2.2.2.2.1 x54.2.2.2.2.2.1 x14.2.2.2.2.2.2.1 x14.2.2.2.2.2.2.2.1 x14.2.2.2.2.2.2.2.2.1 x14.2.2.2.2.2.2.2.2.2.1 x14.2.2.2.2.2.2.2.2.2.2
                                                                                        bif (!x67.2.2.2.2.2.2) then
                                                                                          (false)
                                                                                        else
                                                                                          (let x68 := F_pixel_Composite (IntKind.i64.wrap (1 + x62)) (IntKind.i64.wrap (1 + x64)) x11 x66.1 x66.2.1 x66.2.2.1 x66.2.2.2.1 x66.2.2.2.2 x55.1 x55.2.1 x55.2.2.1 x55.2.2.2.1 x55.2.2.2.2.1
                                                                                          bif (!x68.2.2.2.2.2) then
                                                                                            (false)
                                                                                          else
                                                                                            (bif (x67.2.2.2.2.1 != x67.2.2.2.1) then
                                                                                              (false)
                                                                                            else
                                                                                              (bif x0 then
                                                                                                (bif (decide (5 < x1)) then
                                                                                                  (let x69 := F_pre_gen_At mem p1 5
                                                                                                  bif x69 then
                                                                                                    (let x70 := F_pre_gen_At mem p2 5
                                                                                                    bif x70 then
                                                                                                      (let x71 := F_ixOk p0 5
                                                                                                      bif x71 then
                                                                                                        (let x72 := F_at 5 p0 5
                                                                                                        let x73 := F_rdk mem [.i .i64, .i .i64, .i .i64, .i .i64, .i .i64] x72
                                                                                                        bif x73 then
                                                                                                          (let x74 := F_gen_At mem p1 5
                                                                                                          let x75 := F_gen_Mod x74 12
                                                                                                          let x76 := F_gen_At mem p2 5
                                                                                                          let x77 := F_gen_Mod x76 12
                                                                                                          let x78 := F_rd_i64x5 mem x72
                                                                                                          let x79 := F_gen_Pixel x78.1 x78.2.1 x78.2.2.1 x78.2.2.2.1 x78.2.2.2.2 x11
                                                                                                          let x80 := F_group_Step false (IntKind.i64.wrap (1 + x75)) (IntKind.i64.wrap (1 + x77)) x11 x79.1 x79.2.1 x79.2.2.1 x79.2.2.2.1 x79.2.2.2.2 x67.1 x67.2.1 x67.2.2.1 x67.2.2.2.1 x67.2.2.2.2.1 x67.2.2.2.2.2.1 x14.2.2.2.2.2.2.1 x14.2.2.2.2.2.2.2.1 x14.2.2.2.2.2.2.2.2.1 x14.2.2.2.2.2.2.2.2.2.1 x14.2.2.2.2.2.2.2.2.2.2
                                                                                                          bif (!x80.2.2.2.2.2.2) then
                                                                                                            (false)
                                                                                                          else
                                                                                                            (let x81 := F_pixel_Composite (IntKind.i64.wrap (1 + x75)) (IntKind.i64.wrap (1 + x77)) x11 x79.1 x79.2.1 x79.2.2.1 x79.2.2.2.1 x79.2.2.2.2 x68.1 x68.2.1 x68.2.2.1 x68.2.2.2.1 x68.2.2.2.2.1
                                                                                                            bif (!x81.2.2.2.2.2) then
                                                                                                              (false)
                                                                                                            else
                                                                                                              (bif (x80.2.2.2.2.1 != x80.2.2.2.1) then
                                                                                                                (false)
                                                                                                              else
                                                                                                                (bif x0 then
                                                                                                                  (bif (decide (6 < x1)) then
                                                                                                                    (let x82 := F_pre_gen_At mem p1 6
                                                                                                                    bif x82 then
                                                                                                                      (let x83 := F_pre_gen_At mem p2 6
                                                                                                                      bif x83 then
                                                                                                                        (let x84 := F_ixOk p0 6
                                                                                                                        bif x84 then
                                                                                                                          (let x85 := F_at 5 p0 6
                                                                                                                          let x86 := F_rdk mem [.i .i64, .i .i64, .i .i64, .i .i64, .i .i64] x85
                                                                                                                          bif x86 then
                                                                                                                            (let x87 := F_gen_At mem p1 6
                                                                                                                            let x88 := F_gen_Mod x87 12
                                                                                                                            let x89 := F_gen_At mem p2 6
                                                                                                                            let x90 := F_gen_Mod x89 12
                                                                                                                            let x91 := F_rd_i64x5 mem x85
                                                                                                                            let x92 := F_gen_Pixel x91.1 x91.2.1 x91.2.2.1 x91.2.2.2.1 x91.2.2.2.2 x11
                                                                                                                            let x93 := F_group_Step false (IntKind.i64.wrap (1 + x88)) (IntKind.i64.wrap (1 + x90)) x11 x92.1 x92.2.1 x92.2.2.1 x92.2.2.2.1 x92.2.2.2.2 x80.1 x80.2.1 x80.2.2.1 x80.2.2.2.1 x80.2.2.2.2.1 x80.2.2.2.2.2.1 x14.2.2.2.2.2.2.1 x14.2.2.2.2.2.2.2.1 x14.2.2.2.2.2.2.2.2.1 x14.2.2.2.2.2.2.2.2.2.1 x14.2.2.2.2.2.2.2.2.2.2
                                                                                                                            bif (!x93.2.2.2.2.2.2) then
                                                                                                                              (false)
                                                                                                                            else
                                                                                                                              (let x94 := F_pixel_Composite (IntKind.i64.wrap (1 + x88)) (IntKind.i64.wrap (1 + x90)) x11 x92.1 x92.2.1 x92.2.2.1 x92.2.2.2.1 x92.2.2.2.2 x81.1 x81.2.1 x81.2.2.1 x81.2.2.2.1 x81.2.2.2.2.1
                                                                                                                              bif (!x94.2.2.2.2.2) then
                                                                                                                                (false)
                                                                                                                              else
                                                                                                                                (bif (x93.2.2.2.2.1 != x93.2.2.2.1) then
                                                                                                                                  (false)
                                                                                                                                else
                                                                                                                                  (bif x0 then
                                                                                                                                    (bif (decide (7 < x1)) then
                                                                                                                                      (let x95 := F_pre_gen_At mem p1 7
                                                                                                                                      bif x95 then
                                                                                                                                        (let x96 := F_pre_gen_At mem p2 7
                                                                                                                                        bif x96 then
                                                                                                                                          (let x97 := F_ixOk p0 7
                                                                                                                                          bif x97 then
                                                                                                                                            (let x98 := F_at 5 p0 7
                                                                                                                                            let x99 := F_rdk mem [.i .i64, .i .i64, .i .i64, .i .i64, .i .i64] x98
                                                                                                                                            bif x99 then
                                                                                                                                              (let x100 := F_gen_At mem p1 7
                                                                                                                                              let x101 := F_gen_Mod x100 12
                                                                                                                                              let x102 := F_gen_At mem p2 7
                                                                                                                                              let x103 := F_gen_Mod x102 12
                                                                                                                                              let x104 := F_rd_i64x5 mem x98
                                                                                                                                              let x105 := F_gen_Pixel x104.1 x104.2.1 x104.2.2.1 x104.2.2.2.1 x104.2.2.2.2 x11
                                                                                                                                              let x106 := F_group_Step false (IntKind.i64.wrap (1 + x101)) (IntKind.i64.wrap (1 + x103)) x11 x105.1 x105.2.1 x105.2.2.1 x105.2.2.2.1 x105.2.2.2.2 x93.1 x93.2.1 x93.2.2.1 x93.2.2.2.1 x93.2.2.2.2.1 x93.2.2.2.2.2.1 x14.2.2.2.2.2.2.1 x14.2.2.2.2.2.2.2.1 x14.2.2.2.2.2.2.2.2.1 x14.2.2.2.2.2.2.2.2.2.1 x14.2.2.2.2.2.2.2.2.2.2
                                                                                                                                              bif (!x106.2.2.2.2.2.2) then
                                                                                                                                                (false)
                                                                                                                                              else
                                                                                                                                                (let x107 := F_pixel_Composite (IntKind.i64.wrap (1 + x101)) (IntKind.i64.wrap (1 + x103)) x11 x105.1 x105.2.1 x105.2.2.1 x105.2.2.2.1 x105.2.2.2.2 x94.1 x94.2.1 x94.2.2.1 x94.2.2.2.1 x94.2.2.2.2.1
                                                                                                                                                bif (!x107.2.2.2.2.2) then
                                                                                                                                                  (false)
                                                                                                                                                else
                                                                                                                                                  (bif (x106.2.2.2.2.1 != x106.2.2.2.1) then
                                                                                                                                                    (false)
                                                                                                                                                  else
                                                                                                                                                    (bif x0 then
                                                                                                                                                      (bif (decide (8 < x1)) then
                                                                                                                                                        (let x108 := F_law12_awake
                                                                                                                                                        bif x108 then
                                                                                                                                                          (let x109 := F_group_Result x106.1 x106.2.1 x106.2.2.1 x106.2.2.2.1 x106.2.2.2.2.1 x106.2.2.2.2.2.1 x14.2.2.2.2.2.2.1 x14.2.2.2.2.2.2.2.1 x14.2.2.2.2.2.2.2.2.1 x14.2.2.2.2.2.2.2.2.2.1 x14.2.2.2.2.2.2.2.2.2.2 x11
                                                                                                                                                          bif x109.2.2.2.2.2 then
                                                                                                                                                            ((((x109.1 == x107.1) && ((x109.2.1 == x107.2.1) && (x109.2.2.1 == x107.2.2.1))) && ((x109.2.2.2.1 == x107.2.2.2.1) && (x109.2.2.2.2.1 == x107.2.2.2.2.1))))
                                                                                                                                                          else
                                                                                                                                                            (false))
                                                                                                                                                        else
                                                                                                                                                          (false))
                                                                                                                                                      else
                                                                                                                                                        (let x110 := F_law12_awake
                                                                                                                                                        bif x110 then
                                                                                                                                                          (let x111 := F_group_Result x106.1 x106.2.1 x106.2.2.1 x106.2.2.2.1 x106.2.2.2.2.1 x106.2.2.2.2.2.1 x14.2.2.2.2.2.2.1 x14.2.2.2.2.2.2.2.1 x14.2.2.2.2.2.2.2.2.1 x14.2.2.2.2.2.2.2.2.2.1 x14.2.2.2.2.2.2.2.2.2.2 x11
                                                                                                                                                          bif x111.2.2.2.2.2 then
                                                                                                                                                            ((((x111.1 == x107.1) && ((x111.2.1 == x107.2.1) && (x111.2.2.1 == x107.2.2.1))) && ((x111.2.2.2.1 == x107.2.2.2.1) && (x111.2.2.2.2.1 == x107.2.2.2.2.1))))
                                                                                                                                                          else
                                                                                                                                                            (false))
                                                                                                                                                        else
                                                                                                                                                          (false)))
                                                                                                                                                    else
                                                                                                                                                      ((tru undef))))))
                                                                                                                                            else
                                                                                                                                              ((tru undef)))
                                                                                                                                          else
                                                                                                                                            ((tru undef)))
                                                                                                                                        else
                                                                                                                                          ((tru undef)))
                                                                                                                                      else
                                                                                                                                        ((tru undef)))
                                                                                                                                    else
                                                                                                                                      (let x112 := F_law12_awake
                                                                                                                                      bif x112 then
                                                                                                                                        (let x113 := F_group_Result x93.1 x93.2.1 x93.2.2.1 x93.2.2.2.1 x93.2.2.2.2.1 x93.2.2.2.2.2.1 x14.2.2.2.2.2.2.1 x14.2.2.2.2.2.2.2.1 x14.2.2.2.2.2.2.2.2.1 x14.2.2.2.2.2.2.2.2.2.1 x14.2.2.2.2.2.2.2.2.2.2 x11
                                                                                                                                        bif x113.2.2.2.2.2 then
                                                                                                                                          ((((x113.1 == x94.1) && ((x113.2.1 == x94.2.1) && (x113.2.2.1 == x94.2.2.1))) && ((x113.2.2.2.1 == x94.2.2.2.1) && (x113.2.2.2.2.1 == x94.2.2.2.2.1))))
                                                                                                                                        else
                                                                                                                                          (false))
                                                                                                                                      else
                                                                                                                                        (false)))
                                                                                                                                  else
                                                                                                                                    ((tru undef))))))
                                                                                                                          else
                                                                                                                            ((tru undef)))
                                                                                                                        else
                                                                                                                          ((tru undef)))
                                                                                                                      else
                                                                                                                        ((tru undef)))
                                                                                                                    else
                                                                                                                      ((tru undef)))
                                                                                                                  else
                                                                                                                    (let x114 := F_law12_awake
                                                                                                                    bif x114 then
                                                                                                                      (let x115 := F_group_Result x80.1 x80.2.1 x80.2.2.1 x80.2.2.2.1 x80.2.2.2.2.1 x80.2.2.2.2.2.1 x14.2.2.2.2.2.2.1 x14.2.2.2.2.2.2.2.1 x14.2.2.2.2.2.2.2.2.1 x14.2.2.2.2.2.2.2.2.2.1 x14.2.2.2.2.2.2.2.2.2.2 x11
                                                                                                                      bif x115.2.2.2.2.2 then
                                                                                                                        ((((x115.1 == x81.1) && ((x115.2.1 == x81.2.1) && (x115.2.2.1 == x81.2.2.1))) && ((x115.2.2.2.1 == x81.2.2.2.1) && (x115.2.2.2.2.1 == x81.2.2.2.2.1))))
                                                                                                                      else
                                                                                                                        (false))
                                                                                                                    else
                                                                                                                      (false)))
                                                                                                                else
                                                                                                                  ((tru undef))))))
                                                                                                        else
                                                                                                          ((tru undef)))
                                                                                                      else
                                                                                                        ((tru undef)))
                                                                                                    else
                                                                                                      ((tru undef)))
                                                                                                  else
                                                                                                    ((tru undef)))
                                                                                                else
                                                                                                  (let x116 := F_law12_awake
                                                                                                  bif x116 then
                                                                                                    (let x117 := F_group_Result x67.1 x67.2.1 x67.2.2.1 x67.2.2.2.1 x67.2.2.2.2.1 x67.2.2.2.2.2.1 x14.2.2.2.2.2.2.1 x14.2.2.2.2.2.2.2.1 x14.2.2.2.2.2.2.2.2.1 x14.2.2.2.2.2.2.2.2.2.1 x14.2.2.2.2.2.2.2.2.2.2 x11
                                                                                                    bif x117.2.2.2.2.2 then
                                                                                                      ((((x117.1 == x68.1) && ((x117.2.1 == x68.2.1) && (x117.2.2.1 == x68.2.2.1))) && ((x117.2.2.2.1 == x68.2.2.2.1) && (x117.2.2.2.2.1 == x68.2.2.2.2.1))))
                                                                                                    else
                                                                                                      (false))
                                                                                                  else
                                                                                                    (false)))
                                                                                              else
                                                                                                ((tru undef))))))
                                                                                      else
                                                                                        ((tru undef)))
                                                                                    else
                                                                                      ((tru undef)))
                                                                                  else
                                                                                    ((tru undef)))
                                                                                else
                                                                                  ((tru undef)))
                                                                              else
                                                                                (let x118 := F_law12_awake
                                                                                bif x118 then
                                                                                  (let x119 := F_group_Result x54.1 x54.2.1 x54.2.2.1 x54.2.2.2.1 x54.2.2.2.2.1 x54.2.2.2.2.2.1 x14.2.2.2.2.2.2.1 x14.2.2.2.2.2.2.2.1 x14.2.2.2.2.2.2.2.2.1 x14.2.2.2.2.2.2.2.2.2.1 x14.2.2.2.2.2.2.2.2.2.2 x11
                                                                                  bif x119.2.2.2.2.2 then
                                                                                    ((((x119.1 == x55.1) && ((x119.2.1 == x55.2.1) && (x119.2.2.1 == x55.2.2.1))) && ((x119.2.2.2.1 == x55.2.2.2.1) && (x119.2.2.2.2.1 == x55.2.2.2.2.1))))
                                                                                  else
                                                                                    (false))
                                                                                else
                                                                                  (false)))
                                                                            else
                                                                              ((tru undef))))))
                                                                    else
                                                                      ((tru undef)))
                                                                  else
                                                                    ((tru undef)))
                                                                else
                                                                  ((tru undef)))
                                                              else
                                                                ((tru undef)))
                                                            else
                                                              (let x120 := F_law12_awake
                                                              bif x120 then
                                                                (let x121 := F_group_Result x41.1 x41.2.1 x41.2.2.1 x41.2.2.2.1 x41.2.2.2.2.1 x41.2.2.2.2.2.1 x14.2.2.2.2.2.2.1 x14.2.2.2.2.2.2.2.1 x14.2.2.2.2.2.2.2.2.1 x14.2.2.2.2.2.2.2.2.2.1 x14.2.2.2.2.2.2.2.2.2.2 x11
                                                                bif x121.2.2.2.2.2 then
                                                                  ((((x121.1 == x42.1) && ((x121.2.1 == x42.2.1) && (x121.2.2.1 == x42.2.2.1))) && ((x121.2.2.2.1 == x42.2.2.2.1) && (x121.2.2.2.2.1 == x42.2.2.2.2.1))))
                                                                else
                                                                  (false))
                                                              else
                                                                (false)))
                                                          else
                                                            ((tru undef))))))
                                                  else
                                                    ((tru undef)))
                                                else
                                                  ((tru undef)))
                                              else
                                                ((tru undef)))
                                            else
                                              ((tru undef)))
                                          else
                                            (let x122 := F_law12_awake
                                            bif x122 then
                                              (let x123 := F_group_Result x28.1 x28.2.1 x28.2.2.1 x28.2.2.2.1 x28.2.2.2.2.1 x28.2.2.2.2.2.1 x14.2.2.2.2.2.2.1 x14.2.2.2.2.2.2.2.1 x14.2.2.2.2.2.2.2.2.1 x14.2.2.2.2.2.2.2.2.2.1 x14.2.2.2.2.2.2.2.2.2.2 x11
                                              bif x123.2.2.2.2.2 then
                                                ((((x123.1 == x29.1) && ((x123.2.1 == x29.2.1) && (x123.2.2.1 == x29.2.2.1))) && ((x123.2.2.2.1 == x29.2.2.2.1) && (x123.2.2.2.2.1 == x29.2.2.2.2.1))))
                                              else
                                                (false))
                                            else
                                              (false)))
                                        else
                                          ((tru undef))))))
                                else
                                  ((tru undef)))
                              else
                                ((tru undef)))
                            else
                              ((tru undef)))
                          else
                            ((tru undef)))
                        else
                          (let x124 := F_law12_awake
                          bif x124 then
                            (let x125 := F_group_Result x15.1 x15.2.1 x15.2.2.1 x15.2.2.2.1 x15.2.2.2.2.1 x15.2.2.2.2.2.1 x14.2.2.2.2.2.2.1 x14.2.2.2.2.2.2.2.1 x14.2.2.2.2.2.2.2.2.1 x14.2.2.2.2.2.2.2.2.2.1 x14.2.2.2.2.2.2.2.2.2.2 x11
                            bif x125.2.2.2.2.2 then
                              ((((x125.1 == x16.1) && ((x125.2.1 == x16.2.1) && (x125.2.2.1 == x16.2.2.1))) && ((x125.2.2.2.1 == x16.2.2.2.1) && (x125.2.2.2.2.1 == x16.2.2.2.2.1))))
                            else
                              (false))
                          else
                            (false)))
                      else
                        ((tru undef))))))
              else
                ((tru undef)))
            else
              ((tru undef)))
          else
            ((tru undef)))
        else
          ((tru undef)))
      else
        (let x126 := F_law12_awake
        bif x126 then
          (let x127 := F_group_Begin true false 0 0 0 0 0 0 0 0 0 0 0
          let x128 := F_gen_Max p3
          let x129 := F_group_Result x127.1 x127.2.1 x127.2.2.1 x127.2.2.2.1 x127.2.2.2.2.1 x127.2.2.2.2.2.1 x127.2.2.2.2.2.2.1 x127.2.2.2.2.2.2.2.1 x127.2.2.2.2.2.2.2.2.1 x127.2.2.2.2.2.2.2.2.2.1 x127.2.2.2.2.2.2.2.2.2.2 x128
          bif x129.2.2.2.2.2 then
            ((((x129.1 == 0) && ((x129.2.1 == 0) && (x129.2.2.1 == 0))) && ((x129.2.2.2.1 == 0) && (x129.2.2.2.2.1 == 0))))
          else
            (false))
        else
          (false)))
    else
      ((tru undef)) :=
  spellV (L := L_law12_GroupIsolatedIsPlain mem) (fun l => tru ((l).getD 0 undef)) (evFM ⟨mem, [C_gen_At mem]⟩ Tryd.prog [S_gen_Mod, S_gen_Max, S_gen_Pixel, S_pixel_Composite, S_group_Begin, S_group_Step, S_group_Result, S_law12_awake] 1000 11 (inL A_law12_GroupIsolatedIsPlain [p0, p1, p2, .int .i64 p3])) (L_law12_GroupIsolatedIsPlain_is mem _) (by kernel_rfl)
end Go.Proofs.YtjgmipklbpghfaaDoor
