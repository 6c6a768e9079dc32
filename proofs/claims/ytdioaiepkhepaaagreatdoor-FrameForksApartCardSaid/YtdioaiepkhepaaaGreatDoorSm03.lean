/- Numbers with a root, the program's and the reference's. Printed by a program (gen/Gen.lean); what each function does is told by the evaluator, and the kernel checks it. No condition. -/
import Derived.Test.YtdioaiepkhepaaaGreatDoorSm02
import Derived.KernelRfl
namespace Go.Proofs.YtdioaiepkhepaaaGreatDoor
open Go.RowKit
def A_surd_Valid : List PS := [.agg [.i .u64, .i .u64, .i .u64, .i .u64, .i .u64]]
def R_surd_Valid : RS := .one (.c (.b))
noncomputable def L_surd_Valid (vs : List Value) : List Value := (evF Tryz.prog [] 1000 108 (inL A_surd_Valid vs)).outL
noncomputable def S_surd_Valid : Sum := ⟨108, L_surd_Valid, A_surd_Valid, R_surd_Valid⟩
theorem ok_surd_Valid : SumOK Tryz.prog Inv S_surd_Valid := sumOK_ev inv_stays allOK_nil 1000 108 A_surd_Valid R_surd_Valid (fun _ => by kernel_rfl)
noncomputable def F_surd_Valid (p0 p1 p2 p3 p4 : Int) : Bool := (fun l => tru (l.getD 0 undef)) (L_surd_Valid [.int .u64 p0, .int .u64 p1, .int .u64 p2, .int .u64 p3, .int .u64 p4])
theorem F_surd_Valid_eq (p0 p1 p2 p3 p4 : Int) : F_surd_Valid p0 p1 p2 p3 p4 =
 bif (decide (p0 < 4294967296)) then
 (bif (decide (p2 < 70368744177664)) then
 (bif (decide (p3 < 8589934592)) then
 ((decide (p4 ≥ 1)))
 else
 (false))
 else
 (false))
 else
 (false) :=
 spell (fun l => tru (l.getD 0 undef)) (evF Tryz.prog [] 1000 108 (inL A_surd_Valid [.int .u64 p0, .int .u64 p1, .int .u64 p2, .int .u64 p3, .int .u64 p4])) (by kernel_rfl) (by kernel_rfl)
def A_surd_square : List PS := [.agg [.i .u64, .i .u64, .i .u64, .i .u64, .i .u64]]
def R_surd_square : RS := .one (.agg [.i .u64, .i .u64])
noncomputable def L_surd_square (vs : List Value) : List Value := (evF Tryz.prog [S_wide_Mul, S_wide_MulSmall] 1000 111 (inL A_surd_square vs)).outL
noncomputable def S_surd_square : Sum := ⟨111, L_surd_square, A_surd_square, R_surd_square⟩
theorem ok_surd_square : SumOK Tryz.prog Inv S_surd_square := sumOK_ev inv_stays (allOK_cons ok_wide_Mul (allOK_cons ok_wide_MulSmall allOK_nil)) 1000 111 A_surd_square R_surd_square (fun _ => by kernel_rfl)
noncomputable def F_surd_square (p0 p1 p2 p3 p4 : Int) : Int × Int := (fun l => (num (l.getD 0 undef), num (l.getD 1 undef))) (L_surd_square [.int .u64 p0, .int .u64 p1, .int .u64 p2, .int .u64 p3, .int .u64 p4])
theorem F_surd_square_eq (p0 p1 p2 p3 p4 : Int) : F_surd_square p0 p1 p2 p3 p4 =
 let x0 := F_wide_Mul p2 p2
 let x1 := F_wide_MulSmall x0.1 x0.2 p3
 (x1.1, x1.2.1) :=
 spell (fun l => (num (l.getD 0 undef), num (l.getD 1 undef))) (evF Tryz.prog [S_wide_Mul, S_wide_MulSmall] 1000 111 (inL A_surd_square [.int .u64 p0, .int .u64 p1, .int .u64 p2, .int .u64 p3, .int .u64 p4])) (by kernel_rfl) (by kernel_rfl)
def A_surd_root : List PS := [.agg [.i .u64, .i .u64, .i .u64, .i .u64, .i .u64], .agg [.i .u64, .i .u64]]
def R_surd_root : RS := .one (.c (.i .i64))
noncomputable def L_surd_root (vs : List Value) : List Value := (evF Tryz.prog [S_wide_Mul, S_wide_Compare, S_surd_square] 1000 115 (inL A_surd_root vs)).outL
noncomputable def S_surd_root : Sum := ⟨115, L_surd_root, A_surd_root, R_surd_root⟩
theorem ok_surd_root : SumOK Tryz.prog Inv S_surd_root := sumOK_ev inv_stays (allOK_cons ok_wide_Mul (allOK_cons ok_wide_Compare (allOK_cons ok_surd_square allOK_nil))) 1000 115 A_surd_root R_surd_root (fun _ => by kernel_rfl)
noncomputable def F_surd_root (p0 p1 p2 p3 p4 p5 p6 : Int) : Int := (fun l => num (l.getD 0 undef)) (L_surd_root [.int .u64 p0, .int .u64 p1, .int .u64 p2, .int .u64 p3, .int .u64 p4, .int .u64 p5, .int .u64 p6])
theorem F_surd_root_eq (p0 p1 p2 p3 p4 p5 p6 : Int) : F_surd_root p0 p1 p2 p3 p4 p5 p6 =
 bif (decide (p5 > 0)) then
 ((-1))
 else
 (let x0 := F_surd_square p0 p1 p2 p3 p4
 let x1 := F_wide_Mul p6 p6
 let x2 := F_wide_Compare x0.1 x0.2 x1.1 x1.2
 x2) :=
 spell (fun l => num (l.getD 0 undef)) (evF Tryz.prog [S_wide_Mul, S_wide_Compare, S_surd_square] 1000 115 (inL A_surd_root [.int .u64 p0, .int .u64 p1, .int .u64 p2, .int .u64 p3, .int .u64 p4, .int .u64 p5, .int .u64 p6])) (by kernel_rfl) (by kernel_rfl)
def A_surd_Floor : List PS := [.agg [.i .u64, .i .u64, .i .u64, .i .u64, .i .u64]]
def R_surd_Floor : RS := .tup [.c (.i .u64), .c (.b)]
noncomputable def L_surd_Floor (vs : List Value) : List Value := (evF Tryz.prog [S_wide_Add, S_wide_Of, S_wide_DivMod, S_wide_Sqrt, S_surd_Valid, S_surd_square] 1000 93 (inL A_surd_Floor vs)).outL
noncomputable def S_surd_Floor : Sum := ⟨93, L_surd_Floor, A_surd_Floor, R_surd_Floor⟩
theorem ok_surd_Floor : SumOK Tryz.prog Inv S_surd_Floor := sumOK_ev inv_stays (allOK_cons ok_wide_Add (allOK_cons ok_wide_Of (allOK_cons ok_wide_DivMod (allOK_cons ok_wide_Sqrt (allOK_cons ok_surd_Valid (allOK_cons ok_surd_square allOK_nil)))))) 1000 93 A_surd_Floor R_surd_Floor (fun _ => by kernel_rfl)
noncomputable def F_surd_Floor (p0 p1 p2 p3 p4 : Int) : Int × Bool := (fun l => (num (l.getD 0 undef), tru (l.getD 1 undef))) (L_surd_Floor [.int .u64 p0, .int .u64 p1, .int .u64 p2, .int .u64 p3, .int .u64 p4])
theorem F_surd_Floor_eq (p0 p1 p2 p3 p4 : Int) : F_surd_Floor p0 p1 p2 p3 p4 =
 let x0 := F_surd_Valid p0 p1 p2 p3 p4
 bif (!x0) then
 ((0, false))
 else
 (let x1 := F_surd_square p0 p1 p2 p3 p4
 let x2 := F_wide_Sqrt x1.1 x1.2
 let x3 := F_wide_Of x2
 let x4 := F_wide_Add p0 p1 x3.1 x3.2
 let x5 := F_wide_DivMod x4.1 x4.2.1 p4
 bif (decide (x5.1 > 0)) then
 ((0, false))
 else
 (bif (decide (x5.2.1 ≥ 9223372036854775808)) then
 ((0, false))
 else
 ((x5.2.1, true)))) :=
 spell (fun l => (num (l.getD 0 undef), tru (l.getD 1 undef))) (evF Tryz.prog [S_wide_Add, S_wide_Of, S_wide_DivMod, S_wide_Sqrt, S_surd_Valid, S_surd_square] 1000 93 (inL A_surd_Floor [.int .u64 p0, .int .u64 p1, .int .u64 p2, .int .u64 p3, .int .u64 p4])) (by kernel_rfl) (by kernel_rfl)
def A_surd_up : List PS := [.agg [.i .u64, .i .u64, .i .u64, .i .u64, .i .u64], .c (.i .u64)]
def R_surd_up : RS := .one (.c (.b))
noncomputable def L_surd_up (vs : List Value) : List Value := (evF Tryz.prog [S_wide_Add, S_wide_Sub, S_wide_Mul, S_wide_MulSmall, S_wide_DivMod, S_wide_Compare, S_surd_square, S_surd_root] 1000 94 (inL A_surd_up vs)).outL
noncomputable def S_surd_up : Sum := ⟨94, L_surd_up, A_surd_up, R_surd_up⟩
theorem ok_surd_up : SumOK Tryz.prog Inv S_surd_up := sumOK_ev inv_stays (allOK_cons ok_wide_Add (allOK_cons ok_wide_Sub (allOK_cons ok_wide_Mul (allOK_cons ok_wide_MulSmall (allOK_cons ok_wide_DivMod (allOK_cons ok_wide_Compare (allOK_cons ok_surd_square (allOK_cons ok_surd_root allOK_nil)))))))) 1000 94 A_surd_up R_surd_up (fun _ => by kernel_rfl)
noncomputable def F_surd_up (p0 p1 p2 p3 p4 p5 : Int) : Bool := (fun l => tru (l.getD 0 undef)) (L_surd_up [.int .u64 p0, .int .u64 p1, .int .u64 p2, .int .u64 p3, .int .u64 p4, .int .u64 p5])
theorem F_surd_up_eq (p0 p1 p2 p3 p4 p5 : Int) : F_surd_up p0 p1 p2 p3 p4 p5 =
 let x0 := F_wide_Mul (IntKind.u64.wrap ((IntKind.u64.wrap (2 * p5)) + 1)) p4
 let x1 := F_wide_MulSmall p0 p1 2
 let x2 := F_wide_Sub x0.1 x0.2 x1.1 x1.2.1
 bif (!x2.2.2) then
 (true)
 else
 (let x3 := F_wide_DivMod x2.1 x2.2.1 2
 bif (decide (x3.1 > 0)) then
 (false)
 else
 (bif (x3.2.2.1 == 0) then
 (let x4 := F_surd_root p0 p1 p2 p3 p4 x3.1 x3.2.1
 (decide (x4 ≥ 0)))
 else
 (let x5 := F_wide_Mul x3.2.1 x3.2.1
 let x6 := F_wide_Add x5.1 x5.2 x3.1 x3.2.1
 bif x6.2.2 then
 (let x7 := F_surd_square p0 p1 p2 p3 p4
 let x8 := F_wide_Compare x7.1 x7.2 x6.1 x6.2.1
 (decide (x8 > 0)))
 else
 (false)))) :=
 spell (fun l => tru (l.getD 0 undef)) (evF Tryz.prog [S_wide_Add, S_wide_Sub, S_wide_Mul, S_wide_MulSmall, S_wide_DivMod, S_wide_Compare, S_surd_square, S_surd_root] 1000 94 (inL A_surd_up [.int .u64 p0, .int .u64 p1, .int .u64 p2, .int .u64 p3, .int .u64 p4, .int .u64 p5])) (by kernel_rfl) (by kernel_rfl)
def A_surd_Half : List PS := [.agg [.i .u64, .i .u64, .i .u64, .i .u64, .i .u64]]
def R_surd_Half : RS := .tup [.c (.i .u64), .c (.b)]
noncomputable def L_surd_Half (vs : List Value) : List Value := (evF Tryz.prog [S_surd_Floor, S_surd_up] 1000 76 (inL A_surd_Half vs)).outL
noncomputable def S_surd_Half : Sum := ⟨76, L_surd_Half, A_surd_Half, R_surd_Half⟩
theorem ok_surd_Half : SumOK Tryz.prog Inv S_surd_Half := sumOK_ev inv_stays (allOK_cons ok_surd_Floor (allOK_cons ok_surd_up allOK_nil)) 1000 76 A_surd_Half R_surd_Half (fun _ => by kernel_rfl)
noncomputable def F_surd_Half (p0 p1 p2 p3 p4 : Int) : Int × Bool := (fun l => (num (l.getD 0 undef), tru (l.getD 1 undef))) (L_surd_Half [.int .u64 p0, .int .u64 p1, .int .u64 p2, .int .u64 p3, .int .u64 p4])
theorem F_surd_Half_eq (p0 p1 p2 p3 p4 : Int) : F_surd_Half p0 p1 p2 p3 p4 =
 let x0 := F_surd_Floor p0 p1 p2 p3 p4
 bif (!x0.2) then
 ((0, false))
 else
 (let x1 := F_surd_up p0 p1 p2 p3 p4 x0.1
 bif x1 then
 (bif (decide ((IntKind.u64.wrap (x0.1 + 1)) ≥ 9223372036854775808)) then
 ((0, false))
 else
 (((IntKind.u64.wrap (x0.1 + 1)), true)))
 else
 (bif (decide (x0.1 ≥ 9223372036854775808)) then
 ((0, false))
 else
 ((x0.1, true)))) :=
 spell (fun l => (num (l.getD 0 undef), tru (l.getD 1 undef))) (evF Tryz.prog [S_surd_Floor, S_surd_up] 1000 76 (inL A_surd_Half [.int .u64 p0, .int .u64 p1, .int .u64 p2, .int .u64 p3, .int .u64 p4])) (by kernel_rfl) (by kernel_rfl)
def A_r1_ValidExact : List PS := [.agg [.i .u64, .i .u64, .i .u64, .i .u64, .i .u64]]
def R_r1_ValidExact : RS := .one (.c (.b))
noncomputable def L_r1_ValidExact (vs : List Value) : List Value := (evF Tryz.prog [] 1000 119 (inL A_r1_ValidExact vs)).outL
noncomputable def S_r1_ValidExact : Sum := ⟨119, L_r1_ValidExact, A_r1_ValidExact, R_r1_ValidExact⟩
theorem ok_r1_ValidExact : SumOK Tryz.prog Inv S_r1_ValidExact := sumOK_ev inv_stays allOK_nil 1000 119 A_r1_ValidExact R_r1_ValidExact (fun _ => by kernel_rfl)
noncomputable def F_r1_ValidExact (p0 p1 p2 p3 p4 : Int) : Bool := (fun l => tru (l.getD 0 undef)) (L_r1_ValidExact [.int .u64 p0, .int .u64 p1, .int .u64 p2, .int .u64 p3, .int .u64 p4])
theorem F_r1_ValidExact_eq (p0 p1 p2 p3 p4 : Int) : F_r1_ValidExact p0 p1 p2 p3 p4 =
 bif (decide (p0 < 4294967296)) then
 (bif (decide (p2 < 70368744177664)) then
 (bif (decide (p3 < 8589934592)) then
 ((decide (p4 ≥ 1)))
 else
 (false))
 else
 (false))
 else
 (false) :=
 spell (fun l => tru (l.getD 0 undef)) (evF Tryz.prog [] 1000 119 (inL A_r1_ValidExact [.int .u64 p0, .int .u64 p1, .int .u64 p2, .int .u64 p3, .int .u64 p4])) (by kernel_rfl) (by kernel_rfl)
def A_r1_root : List PS := [.agg [.i .u64, .i .u64, .i .u64, .i .u64, .i .u64], .agg [.i .u64, .i .u64]]
def R_r1_root : RS := .one (.c (.i .i64))
noncomputable def L_r1_root (vs : List Value) : List Value := (evF Tryz.prog [S_r1_Mul, S_r1_Compare, S_r1_MulSmall] 1000 120 (inL A_r1_root vs)).outL
noncomputable def S_r1_root : Sum := ⟨120, L_r1_root, A_r1_root, R_r1_root⟩
theorem ok_r1_root : SumOK Tryz.prog Inv S_r1_root := sumOK_ev inv_stays (allOK_cons ok_r1_Mul (allOK_cons ok_r1_Compare (allOK_cons ok_r1_MulSmall allOK_nil))) 1000 120 A_r1_root R_r1_root (fun _ => by kernel_rfl)
noncomputable def F_r1_root (p0 p1 p2 p3 p4 p5 p6 : Int) : Int := (fun l => num (l.getD 0 undef)) (L_r1_root [.int .u64 p0, .int .u64 p1, .int .u64 p2, .int .u64 p3, .int .u64 p4, .int .u64 p5, .int .u64 p6])
theorem F_r1_root_eq (p0 p1 p2 p3 p4 p5 p6 : Int) : F_r1_root p0 p1 p2 p3 p4 p5 p6 =
 bif (decide (p5 > 0)) then
 ((-1))
 else
 (let x0 := F_r1_Mul p2 p2
 let x1 := F_r1_MulSmall x0.1 x0.2 p3
 let x2 := F_r1_Mul p6 p6
 let x3 := F_r1_Compare x1.1 x1.2.1 x2.1 x2.2
 x3) :=
 spell (fun l => num (l.getD 0 undef)) (evF Tryz.prog [S_r1_Mul, S_r1_Compare, S_r1_MulSmall] 1000 120 (inL A_r1_root [.int .u64 p0, .int .u64 p1, .int .u64 p2, .int .u64 p3, .int .u64 p4, .int .u64 p5, .int .u64 p6])) (by kernel_rfl) (by kernel_rfl)
def A_r1_times : List PS := [.agg [.i .u64, .i .u64, .i .u64, .i .u64, .i .u64], .c (.b), .c (.i .u64)]
def R_r1_times : RS := .one (.c (.i .i64))
noncomputable def L_r1_times (vs : List Value) : List Value := (evF Tryz.prog [S_r1_Add, S_r1_Sub, S_r1_Mul, S_r1_root] 1000 104 (inL A_r1_times vs)).outL
noncomputable def S_r1_times : Sum := ⟨104, L_r1_times, A_r1_times, R_r1_times⟩
theorem ok_r1_times : SumOK Tryz.prog Inv S_r1_times := sumOK_ev inv_stays (allOK_cons ok_r1_Add (allOK_cons ok_r1_Sub (allOK_cons ok_r1_Mul (allOK_cons ok_r1_root allOK_nil)))) 1000 104 A_r1_times R_r1_times (fun _ => by kernel_rfl)
noncomputable def F_r1_times (p0 p1 p2 p3 p4 : Int) (p5 : Bool) (p6 : Int) : Int := (fun l => num (l.getD 0 undef)) (L_r1_times [.int .u64 p0, .int .u64 p1, .int .u64 p2, .int .u64 p3, .int .u64 p4, .bool p5, .int .u64 p6])
theorem F_r1_times_eq (p0 p1 p2 p3 p4 : Int) (p5 : Bool) (p6 : Int) : F_r1_times p0 p1 p2 p3 p4 p5 p6 =
 bif p5 then
 (let x0 := F_r1_Mul p6 p4
 let x1 := F_r1_Add p0 p1 p0 p1
 let x2 := F_r1_Sub x0.1 x0.2 x1.1 x1.2.1
 bif (!x2.2.2) then
 (1)
 else
 (let x3 := F_r1_root p0 p1 (IntKind.u64.wrap (2 * p2)) p3 p4 x2.1 x2.2.1
 x3))
 else
 (let x4 := F_r1_Mul p6 p4
 let x5 := F_r1_Sub x4.1 x4.2 p0 p1
 bif (!x5.2.2) then
 (1)
 else
 (let x6 := F_r1_root p0 p1 p2 p3 p4 x5.1 x5.2.1
 x6)) :=
 spell (fun l => num (l.getD 0 undef)) (evF Tryz.prog [S_r1_Add, S_r1_Sub, S_r1_Mul, S_r1_root] 1000 104 (inL A_r1_times [.int .u64 p0, .int .u64 p1, .int .u64 p2, .int .u64 p3, .int .u64 p4, .bool p5, .int .u64 p6])) (by kernel_rfl) (by kernel_rfl)
def A_r1_Half : List PS := [.c (.i .u64), .c (.i .u64)]
def R_r1_Half : RS := .one (.c (.i .u64))
noncomputable def L_r1_Half (vs : List Value) : List Value := (evF Tryz.prog [] 1000 52 (inL A_r1_Half vs)).outL
noncomputable def S_r1_Half : Sum := ⟨52, L_r1_Half, A_r1_Half, R_r1_Half⟩
theorem okB_r1_Half (p0 p1 : Int) : (evF Tryz.prog [] 1000 52 (inL A_r1_Half [.int .u64 p0, .int .u64 p1])).ok =
 bif (p1 == 0) then
 (true)
 else
 (bif (p1 == 0) then
 (false)
 else
 (bif (p1 == 0) then
 (false)
 else
 (true))) := (okR_eq _).trans (by kernel_rfl)
theorem okA_r1_Half (h : ∀ p0 p1 , IntKind.u64.min ≤ p0 → p0 ≤ IntKind.u64.max → IntKind.u64.min ≤ p1 → p1 ≤ IntKind.u64.max → (evF Tryz.prog [] 1000 52 (inL A_r1_Half [.int .u64 p0, .int .u64 p1])).ok = true) : SumOK Tryz.prog Inv S_r1_Half := sumOK_part inv_stays allOK_nil 1000 52 A_r1_Half R_r1_Half (fun _ => by kernel_rfl) (fun vs hk => by
 obtain ⟨_, _, rfl, ⟨p0, rfl, p0lo, p0hi⟩, _, _, rfl, ⟨p1, rfl, p1lo, p1hi⟩, rfl⟩ := hk
 exact h p0 p1 p0lo p0hi p1lo p1hi )
theorem ok_r1_Half : SumOK Tryz.prog Inv S_r1_Half := okA_r1_Half fun p0 p1 _ _ _ _ => by
 rw [okB_r1_Half]
 generalize (p1 == 0) = b
 cases b <;> rfl
noncomputable def F_r1_Half (p0 p1 : Int) : Int := (fun l => num (l.getD 0 undef)) (L_r1_Half [.int .u64 p0, .int .u64 p1])
theorem F_r1_Half_eq (p0 p1 : Int) : F_r1_Half p0 p1 =
 bif (p1 == 0) then
 (0)
 else
 (bif (p1 == 0) then
 ((num undef))
 else
 (bif (p1 == 0) then
 ((num undef))
 else
 (bif (decide ((Int.tmod p0 p1) ≥ (IntKind.u64.wrap (p1 - (Int.tmod p0 p1))))) then
 ((IntKind.u64.wrap ((IntKind.u64.wrap (Int.tdiv p0 p1)) + 1)))
 else
 ((IntKind.u64.wrap (Int.tdiv p0 p1)))))) :=
 spell (fun l => num (l.getD 0 undef)) (evF Tryz.prog [] 1000 52 (inL A_r1_Half [.int .u64 p0, .int .u64 p1])) (by kernel_rfl) (by kernel_rfl)
def A_gen_Mod : List PS := [.c (.i .i64), .c (.i .i64)]
def R_gen_Mod : RS := .one (.c (.i .i64))
noncomputable def L_gen_Mod (vs : List Value) : List Value := (evF Tryz.prog [] 1000 14 (inL A_gen_Mod vs)).outL
noncomputable def S_gen_Mod : Sum := ⟨14, L_gen_Mod, A_gen_Mod, R_gen_Mod⟩
theorem okB_gen_Mod (p0 p1 : Int) : (evF Tryz.prog [] 1000 14 (inL A_gen_Mod [.int .i64 p0, .int .i64 p1])).ok =
 bif (decide (p1 < 1)) then
 (true)
 else
 (bif (p1 == 0) then
 (false)
 else
 (bif (p1 == 0) then
 (false)
 else
 (true))) := (okR_eq _).trans (by kernel_rfl)
theorem okA_gen_Mod (h : ∀ p0 p1 , IntKind.i64.min ≤ p0 → p0 ≤ IntKind.i64.max → IntKind.i64.min ≤ p1 → p1 ≤ IntKind.i64.max → (evF Tryz.prog [] 1000 14 (inL A_gen_Mod [.int .i64 p0, .int .i64 p1])).ok = true) : SumOK Tryz.prog Inv S_gen_Mod := sumOK_part inv_stays allOK_nil 1000 14 A_gen_Mod R_gen_Mod (fun _ => by kernel_rfl) (fun vs hk => by
 obtain ⟨_, _, rfl, ⟨p0, rfl, p0lo, p0hi⟩, _, _, rfl, ⟨p1, rfl, p1lo, p1hi⟩, rfl⟩ := hk
 exact h p0 p1 p0lo p0hi p1lo p1hi )
theorem ok_gen_Mod : SumOK Tryz.prog Inv S_gen_Mod := okA_gen_Mod fun p0 p1 _ _ _ _ => by
 rw [okB_gen_Mod]
 by_cases h : p1 < 1
 ·simp [h]
 ·have h2 : (p1 == 0) = false := by simp; omega
  simp [h, h2]
noncomputable def F_gen_Mod (p0 p1 : Int) : Int := (fun l => num (l.getD 0 undef)) (L_gen_Mod [.int .i64 p0, .int .i64 p1])
theorem F_gen_Mod_eq (p0 p1 : Int) : F_gen_Mod p0 p1 =
 bif (decide (p1 < 1)) then
 (0)
 else
 (bif (p1 == 0) then
 ((num undef))
 else
 (bif (p1 == 0) then
 ((num undef))
 else
 ((Int.tmod (IntKind.i64.wrap ((Int.tmod p0 p1) + p1)) p1)))) :=
 spell (fun l => num (l.getD 0 undef)) (evF Tryz.prog [] 1000 14 (inL A_gen_Mod [.int .i64 p0, .int .i64 p1])) (by kernel_rfl) (by kernel_rfl)
end Go.Proofs.YtdioaiepkhepaaaGreatDoor
