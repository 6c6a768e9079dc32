/- Machines: the contracts of chapter 22's functions. Printed by a program (gen/Gen2.lean) but for the loops' proofs; what each function does is told by the evaluator, and the kernel checks it. No condition. -/
import Derived.Test.YtdioaiepkhepaaaGreatDoorSm12
import Derived.Test.YtdioaiepkhepaaaGreatDoorSm16a
import Derived.Test.YtdioaiepkhepaaaGreatDoorFrm
import Derived.KernelRfl
import Derived.Shelf.Spec.TrailingZeros
import Derived.Laws.Bits64b
namespace Go.Proofs.YtdioaiepkhepaaaGreatDoor
set_option maxRecDepth 100000
open Go.RowKit
def A_gen_offset : List PS := [.c (.i .i64), .c (.i .i64)]
def R_gen_offset : RS := .one (.c (.i .i64))
noncomputable def L_gen_offset : List Value → List Value := Classical.choose (veil fun vs => (evF Tryz.prog [S_gen_Mod] 1000 33 (inL A_gen_offset vs)).outL)
theorem L_gen_offset_is (vs : List Value) : L_gen_offset vs = (evF Tryz.prog [S_gen_Mod] 1000 33 (inL A_gen_offset vs)).outL := Classical.choose_spec (veil _) vs
noncomputable def S_gen_offset : Sum := ⟨33, L_gen_offset, A_gen_offset, R_gen_offset⟩
theorem ok_gen_offset : SumOK Tryz.prog InvN S_gen_offset := sumOK_evV invN_stays (allOK_cons ok_gen_Mod.any allOK_nil) 1000 33 A_gen_offset R_gen_offset L_gen_offset_is (fun _ => by kernel_rfl)
noncomputable def F_gen_offset (p0 p1 : Int) : Int := (fun l => num (l.getD 0 undef)) (L_gen_offset [.int .i64 p0, .int .i64 p1])
def A_gen_Op : List PS := [.agg [.i .i64, .i .i64, .i .i64, .i .i64, .i .i64, .i .i64, .i .i64, .i .i64, .i .i64, .i .i64, .i .i64], .c (.b), .c (.i .i64), .agg [.i .i64, .i .i64, .i .i64, .i .i64], .c (.b), .c (.i .u16)]
def R_gen_Op : RS := .one (.agg [.i .i64, .i .i64, .i .i64, .i .i64, .i .i64, .i .i64, .i .i64, .i .u16, .i .i64, .i .i64, .b, .b])
noncomputable def L_gen_Op : List Value → List Value := Classical.choose (veil fun vs => (evF Tryz.prog [S_gen_Mod, S_gen_Sample, S_gen_offset] 1000 12 (inL A_gen_Op vs)).outL)
theorem L_gen_Op_is (vs : List Value) : L_gen_Op vs = (evF Tryz.prog [S_gen_Mod, S_gen_Sample, S_gen_offset] 1000 12 (inL A_gen_Op vs)).outL := Classical.choose_spec (veil _) vs
noncomputable def S_gen_Op : Sum := ⟨12, L_gen_Op, A_gen_Op, R_gen_Op⟩
theorem ok_gen_Op : SumOK Tryz.prog InvN S_gen_Op := sumOK_evV invN_stays (allOK_cons ok_gen_Mod.any (allOK_cons ok_gen_Sample.any (allOK_cons ok_gen_offset allOK_nil))) 1000 12 A_gen_Op R_gen_Op L_gen_Op_is (fun _ => by kernel_rfl)
noncomputable def F_gen_Op (p0 p1 p2 p3 p4 p5 p6 p7 p8 p9 p10 : Int) (p11 : Bool) (p12 p13 p14 p15 p16 : Int) (p17 : Bool) (p18 : Int) : Int × Int × Int × Int × Int × Int × Int × Int × Int × Int × Bool × Bool := (fun l => (num (l.getD 0 undef), num (l.getD 1 undef), num (l.getD 2 undef), num (l.getD 3 undef), num (l.getD 4 undef), num (l.getD 5 undef), num (l.getD 6 undef), num (l.getD 7 undef), num (l.getD 8 undef), num (l.getD 9 undef), tru (l.getD 10 undef), tru (l.getD 11 undef))) (L_gen_Op [.int .i64 p0, .int .i64 p1, .int .i64 p2, .int .i64 p3, .int .i64 p4, .int .i64 p5, .int .i64 p6, .int .i64 p7, .int .i64 p8, .int .i64 p9, .int .i64 p10, .bool p11, .int .i64 p12, .int .i64 p13, .int .i64 p14, .int .i64 p15, .int .i64 p16, .bool p17, .int .u16 p18])
theorem F_gen_Op_eq (p0 p1 p2 p3 p4 p5 p6 p7 p8 p9 p10 : Int) (p11 : Bool) (p12 p13 p14 p15 p16 : Int) (p17 : Bool) (p18 : Int) : F_gen_Op p0 p1 p2 p3 p4 p5 p6 p7 p8 p9 p10 p11 p12 p13 p14 p15 p16 p17 p18 =
 bif p11 then
 (let x0 := F_gen_Mod p4 4
 bif (x0 == 0) then
 (let x1 := F_gen_Mod p7 2
 bif (x1 == 0) then
 (let x2 := F_gen_Mod p9 2
 bif (x2 == 0) then
 (bif p17 then
 (let x3 := F_gen_Mod p8 2
 bif (x3 == 0) then
 (let x4 := F_gen_Mod (IntKind.i64.wrap (Int.tdiv p4 4)) p12
 let x5 := F_gen_offset p5 p13
 let x6 := F_gen_offset p6 p14
 let x7 := F_gen_Sample (IntKind.i64.wrap (Int.tdiv p7 2)) p18
 let x8 := F_gen_Mod (IntKind.i64.wrap (Int.tdiv p8 2)) 12
 let x9 := F_gen_Mod (IntKind.i64.wrap (Int.tdiv p9 2)) 12
 let x10 := F_gen_Mod p10 2
 let x11 := F_gen_Mod (IntKind.i64.wrap (Int.tdiv p10 2)) 3
 (2, 0, 0, 0, (IntKind.i64.wrap (1 + x4)), x5, x6, x7, (IntKind.i64.wrap (1 + x8)), (IntKind.i64.wrap (1 + x9)), (x10 == 0), (x11 == 0)))
 else
 (let x12 := F_gen_Mod (IntKind.i64.wrap (Int.tdiv p4 4)) p12
 let x13 := F_gen_offset p5 p13
 let x14 := F_gen_offset p6 p14
 let x15 := F_gen_Sample (IntKind.i64.wrap (Int.tdiv p7 2)) p18
 let x16 := F_gen_Mod (IntKind.i64.wrap (Int.tdiv p9 2)) 12
 let x17 := F_gen_Mod p10 2
 let x18 := F_gen_Mod (IntKind.i64.wrap (Int.tdiv p10 2)) 3
 (2, 0, 0, 0, (IntKind.i64.wrap (1 + x12)), x13, x14, x15, 4, (IntKind.i64.wrap (1 + x16)), (x17 == 0), (x18 == 0))))
 else
 (let x19 := F_gen_Mod (IntKind.i64.wrap (Int.tdiv p4 4)) p12
 let x20 := F_gen_offset p5 p13
 let x21 := F_gen_offset p6 p14
 let x22 := F_gen_Sample (IntKind.i64.wrap (Int.tdiv p7 2)) p18
 let x23 := F_gen_Mod (IntKind.i64.wrap (Int.tdiv p9 2)) 12
 let x24 := F_gen_Mod p10 2
 let x25 := F_gen_Mod (IntKind.i64.wrap (Int.tdiv p10 2)) 3
 (2, 0, 0, 0, (IntKind.i64.wrap (1 + x19)), x20, x21, x22, 4, (IntKind.i64.wrap (1 + x23)), (x24 == 0), (x25 == 0))))
 else
 (bif p17 then
 (let x26 := F_gen_Mod p8 2
 bif (x26 == 0) then
 (let x27 := F_gen_Mod (IntKind.i64.wrap (Int.tdiv p4 4)) p12
 let x28 := F_gen_offset p5 p13
 let x29 := F_gen_offset p6 p14
 let x30 := F_gen_Sample (IntKind.i64.wrap (Int.tdiv p7 2)) p18
 let x31 := F_gen_Mod (IntKind.i64.wrap (Int.tdiv p8 2)) 12
 let x32 := F_gen_Mod p10 2
 let x33 := F_gen_Mod (IntKind.i64.wrap (Int.tdiv p10 2)) 3
 (2, 0, 0, 0, (IntKind.i64.wrap (1 + x27)), x28, x29, x30, (IntKind.i64.wrap (1 + x31)), 1, (x32 == 0), (x33 == 0)))
 else
 (let x34 := F_gen_Mod (IntKind.i64.wrap (Int.tdiv p4 4)) p12
 let x35 := F_gen_offset p5 p13
 let x36 := F_gen_offset p6 p14
 let x37 := F_gen_Sample (IntKind.i64.wrap (Int.tdiv p7 2)) p18
 let x38 := F_gen_Mod p10 2
 let x39 := F_gen_Mod (IntKind.i64.wrap (Int.tdiv p10 2)) 3
 (2, 0, 0, 0, (IntKind.i64.wrap (1 + x34)), x35, x36, x37, 4, 1, (x38 == 0), (x39 == 0))))
 else
 (let x40 := F_gen_Mod (IntKind.i64.wrap (Int.tdiv p4 4)) p12
 let x41 := F_gen_offset p5 p13
 let x42 := F_gen_offset p6 p14
 let x43 := F_gen_Sample (IntKind.i64.wrap (Int.tdiv p7 2)) p18
 let x44 := F_gen_Mod p10 2
 let x45 := F_gen_Mod (IntKind.i64.wrap (Int.tdiv p10 2)) 3
 (2, 0, 0, 0, (IntKind.i64.wrap (1 + x40)), x41, x42, x43, 4, 1, (x44 == 0), (x45 == 0)))))
 else
 (let x46 := F_gen_Mod p9 2
 bif (x46 == 0) then
 (bif p17 then
 (let x47 := F_gen_Mod p8 2
 bif (x47 == 0) then
 (let x48 := F_gen_Mod (IntKind.i64.wrap (Int.tdiv p4 4)) p12
 let x49 := F_gen_offset p5 p13
 let x50 := F_gen_offset p6 p14
 let x51 := F_gen_Mod (IntKind.i64.wrap (Int.tdiv p8 2)) 12
 let x52 := F_gen_Mod (IntKind.i64.wrap (Int.tdiv p9 2)) 12
 let x53 := F_gen_Mod p10 2
 let x54 := F_gen_Mod (IntKind.i64.wrap (Int.tdiv p10 2)) 3
 (2, 0, 0, 0, (IntKind.i64.wrap (1 + x48)), x49, x50, p18, (IntKind.i64.wrap (1 + x51)), (IntKind.i64.wrap (1 + x52)), (x53 == 0), (x54 == 0)))
 else
 (let x55 := F_gen_Mod (IntKind.i64.wrap (Int.tdiv p4 4)) p12
 let x56 := F_gen_offset p5 p13
 let x57 := F_gen_offset p6 p14
 let x58 := F_gen_Mod (IntKind.i64.wrap (Int.tdiv p9 2)) 12
 let x59 := F_gen_Mod p10 2
 let x60 := F_gen_Mod (IntKind.i64.wrap (Int.tdiv p10 2)) 3
 (2, 0, 0, 0, (IntKind.i64.wrap (1 + x55)), x56, x57, p18, 4, (IntKind.i64.wrap (1 + x58)), (x59 == 0), (x60 == 0))))
 else
 (let x61 := F_gen_Mod (IntKind.i64.wrap (Int.tdiv p4 4)) p12
 let x62 := F_gen_offset p5 p13
 let x63 := F_gen_offset p6 p14
 let x64 := F_gen_Mod (IntKind.i64.wrap (Int.tdiv p9 2)) 12
 let x65 := F_gen_Mod p10 2
 let x66 := F_gen_Mod (IntKind.i64.wrap (Int.tdiv p10 2)) 3
 (2, 0, 0, 0, (IntKind.i64.wrap (1 + x61)), x62, x63, p18, 4, (IntKind.i64.wrap (1 + x64)), (x65 == 0), (x66 == 0))))
 else
 (bif p17 then
 (let x67 := F_gen_Mod p8 2
 bif (x67 == 0) then
 (let x68 := F_gen_Mod (IntKind.i64.wrap (Int.tdiv p4 4)) p12
 let x69 := F_gen_offset p5 p13
 let x70 := F_gen_offset p6 p14
 let x71 := F_gen_Mod (IntKind.i64.wrap (Int.tdiv p8 2)) 12
 let x72 := F_gen_Mod p10 2
 let x73 := F_gen_Mod (IntKind.i64.wrap (Int.tdiv p10 2)) 3
 (2, 0, 0, 0, (IntKind.i64.wrap (1 + x68)), x69, x70, p18, (IntKind.i64.wrap (1 + x71)), 1, (x72 == 0), (x73 == 0)))
 else
 (let x74 := F_gen_Mod (IntKind.i64.wrap (Int.tdiv p4 4)) p12
 let x75 := F_gen_offset p5 p13
 let x76 := F_gen_offset p6 p14
 let x77 := F_gen_Mod p10 2
 let x78 := F_gen_Mod (IntKind.i64.wrap (Int.tdiv p10 2)) 3
 (2, 0, 0, 0, (IntKind.i64.wrap (1 + x74)), x75, x76, p18, 4, 1, (x77 == 0), (x78 == 0))))
 else
 (let x79 := F_gen_Mod (IntKind.i64.wrap (Int.tdiv p4 4)) p12
 let x80 := F_gen_offset p5 p13
 let x81 := F_gen_offset p6 p14
 let x82 := F_gen_Mod p10 2
 let x83 := F_gen_Mod (IntKind.i64.wrap (Int.tdiv p10 2)) 3
 (2, 0, 0, 0, (IntKind.i64.wrap (1 + x79)), x80, x81, p18, 4, 1, (x82 == 0), (x83 == 0))))))
 else
 (let x84 := F_gen_Mod p7 2
 bif (x84 == 0) then
 (let x85 := F_gen_Mod p9 2
 bif (x85 == 0) then
 (bif p17 then
 (let x86 := F_gen_Mod p8 2
 bif (x86 == 0) then
 (let x87 := F_gen_Sample (IntKind.i64.wrap (Int.tdiv p7 2)) p18
 let x88 := F_gen_Mod (IntKind.i64.wrap (Int.tdiv p8 2)) 12
 let x89 := F_gen_Mod (IntKind.i64.wrap (Int.tdiv p9 2)) 12
 let x90 := F_gen_Mod p10 2
 let x91 := F_gen_Mod (IntKind.i64.wrap (Int.tdiv p10 2)) 3
 (2, 0, 0, 0, 0, 0, 0, x87, (IntKind.i64.wrap (1 + x88)), (IntKind.i64.wrap (1 + x89)), (x90 == 0), (x91 == 0)))
 else
 (let x92 := F_gen_Sample (IntKind.i64.wrap (Int.tdiv p7 2)) p18
 let x93 := F_gen_Mod (IntKind.i64.wrap (Int.tdiv p9 2)) 12
 let x94 := F_gen_Mod p10 2
 let x95 := F_gen_Mod (IntKind.i64.wrap (Int.tdiv p10 2)) 3
 (2, 0, 0, 0, 0, 0, 0, x92, 4, (IntKind.i64.wrap (1 + x93)), (x94 == 0), (x95 == 0))))
 else
 (let x96 := F_gen_Sample (IntKind.i64.wrap (Int.tdiv p7 2)) p18
 let x97 := F_gen_Mod (IntKind.i64.wrap (Int.tdiv p9 2)) 12
 let x98 := F_gen_Mod p10 2
 let x99 := F_gen_Mod (IntKind.i64.wrap (Int.tdiv p10 2)) 3
 (2, 0, 0, 0, 0, 0, 0, x96, 4, (IntKind.i64.wrap (1 + x97)), (x98 == 0), (x99 == 0))))
 else
 (bif p17 then
 (let x100 := F_gen_Mod p8 2
 bif (x100 == 0) then
 (let x101 := F_gen_Sample (IntKind.i64.wrap (Int.tdiv p7 2)) p18
 let x102 := F_gen_Mod (IntKind.i64.wrap (Int.tdiv p8 2)) 12
 let x103 := F_gen_Mod p10 2
 let x104 := F_gen_Mod (IntKind.i64.wrap (Int.tdiv p10 2)) 3
 (2, 0, 0, 0, 0, 0, 0, x101, (IntKind.i64.wrap (1 + x102)), 1, (x103 == 0), (x104 == 0)))
 else
 (let x105 := F_gen_Sample (IntKind.i64.wrap (Int.tdiv p7 2)) p18
 let x106 := F_gen_Mod p10 2
 let x107 := F_gen_Mod (IntKind.i64.wrap (Int.tdiv p10 2)) 3
 (2, 0, 0, 0, 0, 0, 0, x105, 4, 1, (x106 == 0), (x107 == 0))))
 else
 (let x108 := F_gen_Sample (IntKind.i64.wrap (Int.tdiv p7 2)) p18
 let x109 := F_gen_Mod p10 2
 let x110 := F_gen_Mod (IntKind.i64.wrap (Int.tdiv p10 2)) 3
 (2, 0, 0, 0, 0, 0, 0, x108, 4, 1, (x109 == 0), (x110 == 0)))))
 else
 (let x111 := F_gen_Mod p9 2
 bif (x111 == 0) then
 (bif p17 then
 (let x112 := F_gen_Mod p8 2
 bif (x112 == 0) then
 (let x113 := F_gen_Mod (IntKind.i64.wrap (Int.tdiv p8 2)) 12
 let x114 := F_gen_Mod (IntKind.i64.wrap (Int.tdiv p9 2)) 12
 let x115 := F_gen_Mod p10 2
 let x116 := F_gen_Mod (IntKind.i64.wrap (Int.tdiv p10 2)) 3
 (2, 0, 0, 0, 0, 0, 0, p18, (IntKind.i64.wrap (1 + x113)), (IntKind.i64.wrap (1 + x114)), (x115 == 0), (x116 == 0)))
 else
 (let x117 := F_gen_Mod (IntKind.i64.wrap (Int.tdiv p9 2)) 12
 let x118 := F_gen_Mod p10 2
 let x119 := F_gen_Mod (IntKind.i64.wrap (Int.tdiv p10 2)) 3
 (2, 0, 0, 0, 0, 0, 0, p18, 4, (IntKind.i64.wrap (1 + x117)), (x118 == 0), (x119 == 0))))
 else
 (let x120 := F_gen_Mod (IntKind.i64.wrap (Int.tdiv p9 2)) 12
 let x121 := F_gen_Mod p10 2
 let x122 := F_gen_Mod (IntKind.i64.wrap (Int.tdiv p10 2)) 3
 (2, 0, 0, 0, 0, 0, 0, p18, 4, (IntKind.i64.wrap (1 + x120)), (x121 == 0), (x122 == 0))))
 else
 (bif p17 then
 (let x123 := F_gen_Mod p8 2
 bif (x123 == 0) then
 (let x124 := F_gen_Mod (IntKind.i64.wrap (Int.tdiv p8 2)) 12
 let x125 := F_gen_Mod p10 2
 let x126 := F_gen_Mod (IntKind.i64.wrap (Int.tdiv p10 2)) 3
 (2, 0, 0, 0, 0, 0, 0, p18, (IntKind.i64.wrap (1 + x124)), 1, (x125 == 0), (x126 == 0)))
 else
 (let x127 := F_gen_Mod p10 2
 let x128 := F_gen_Mod (IntKind.i64.wrap (Int.tdiv p10 2)) 3
 (2, 0, 0, 0, 0, 0, 0, p18, 4, 1, (x127 == 0), (x128 == 0))))
 else
 (let x129 := F_gen_Mod p10 2
 let x130 := F_gen_Mod (IntKind.i64.wrap (Int.tdiv p10 2)) 3
 (2, 0, 0, 0, 0, 0, 0, p18, 4, 1, (x129 == 0), (x130 == 0)))))))
 else
 (let x131 := F_gen_Mod p4 4
 bif (x131 == 0) then
 (let x132 := F_gen_Mod p7 2
 bif (x132 == 0) then
 (let x133 := F_gen_Mod p9 2
 bif (x133 == 0) then
 (bif p17 then
 (let x134 := F_gen_Mod p8 2
 bif (x134 == 0) then
 (let x135 := F_gen_Mod p1 p12
 let x136 := F_gen_offset p2 p13
 let x137 := F_gen_offset p3 p14
 let x138 := F_gen_Mod (IntKind.i64.wrap (Int.tdiv p4 4)) p12
 let x139 := F_gen_offset p5 p13
 let x140 := F_gen_offset p6 p14
 let x141 := F_gen_Sample (IntKind.i64.wrap (Int.tdiv p7 2)) p18
 let x142 := F_gen_Mod (IntKind.i64.wrap (Int.tdiv p8 2)) 12
 let x143 := F_gen_Mod (IntKind.i64.wrap (Int.tdiv p9 2)) 12
 (1, x135, x136, x137, (IntKind.i64.wrap (1 + x138)), x139, x140, x141, (IntKind.i64.wrap (1 + x142)), (IntKind.i64.wrap (1 + x143)), false, false))
 else
 (let x144 := F_gen_Mod p1 p12
 let x145 := F_gen_offset p2 p13
 let x146 := F_gen_offset p3 p14
 let x147 := F_gen_Mod (IntKind.i64.wrap (Int.tdiv p4 4)) p12
 let x148 := F_gen_offset p5 p13
 let x149 := F_gen_offset p6 p14
 let x150 := F_gen_Sample (IntKind.i64.wrap (Int.tdiv p7 2)) p18
 let x151 := F_gen_Mod (IntKind.i64.wrap (Int.tdiv p9 2)) 12
 (1, x144, x145, x146, (IntKind.i64.wrap (1 + x147)), x148, x149, x150, 4, (IntKind.i64.wrap (1 + x151)), false, false)))
 else
 (let x152 := F_gen_Mod p1 p12
 let x153 := F_gen_offset p2 p13
 let x154 := F_gen_offset p3 p14
 let x155 := F_gen_Mod (IntKind.i64.wrap (Int.tdiv p4 4)) p12
 let x156 := F_gen_offset p5 p13
 let x157 := F_gen_offset p6 p14
 let x158 := F_gen_Sample (IntKind.i64.wrap (Int.tdiv p7 2)) p18
 let x159 := F_gen_Mod (IntKind.i64.wrap (Int.tdiv p9 2)) 12
 (1, x152, x153, x154, (IntKind.i64.wrap (1 + x155)), x156, x157, x158, 4, (IntKind.i64.wrap (1 + x159)), false, false)))
 else
 (bif p17 then
 (let x160 := F_gen_Mod p8 2
 bif (x160 == 0) then
 (let x161 := F_gen_Mod p1 p12
 let x162 := F_gen_offset p2 p13
 let x163 := F_gen_offset p3 p14
 let x164 := F_gen_Mod (IntKind.i64.wrap (Int.tdiv p4 4)) p12
 let x165 := F_gen_offset p5 p13
 let x166 := F_gen_offset p6 p14
 let x167 := F_gen_Sample (IntKind.i64.wrap (Int.tdiv p7 2)) p18
 let x168 := F_gen_Mod (IntKind.i64.wrap (Int.tdiv p8 2)) 12
 (1, x161, x162, x163, (IntKind.i64.wrap (1 + x164)), x165, x166, x167, (IntKind.i64.wrap (1 + x168)), 1, false, false))
 else
 (let x169 := F_gen_Mod p1 p12
 let x170 := F_gen_offset p2 p13
 let x171 := F_gen_offset p3 p14
 let x172 := F_gen_Mod (IntKind.i64.wrap (Int.tdiv p4 4)) p12
 let x173 := F_gen_offset p5 p13
 let x174 := F_gen_offset p6 p14
 let x175 := F_gen_Sample (IntKind.i64.wrap (Int.tdiv p7 2)) p18
 (1, x169, x170, x171, (IntKind.i64.wrap (1 + x172)), x173, x174, x175, 4, 1, false, false)))
 else
 (let x176 := F_gen_Mod p1 p12
 let x177 := F_gen_offset p2 p13
 let x178 := F_gen_offset p3 p14
 let x179 := F_gen_Mod (IntKind.i64.wrap (Int.tdiv p4 4)) p12
 let x180 := F_gen_offset p5 p13
 let x181 := F_gen_offset p6 p14
 let x182 := F_gen_Sample (IntKind.i64.wrap (Int.tdiv p7 2)) p18
 (1, x176, x177, x178, (IntKind.i64.wrap (1 + x179)), x180, x181, x182, 4, 1, false, false))))
 else
 (let x183 := F_gen_Mod p9 2
 bif (x183 == 0) then
 (bif p17 then
 (let x184 := F_gen_Mod p8 2
 bif (x184 == 0) then
 (let x185 := F_gen_Mod p1 p12
 let x186 := F_gen_offset p2 p13
 let x187 := F_gen_offset p3 p14
 let x188 := F_gen_Mod (IntKind.i64.wrap (Int.tdiv p4 4)) p12
 let x189 := F_gen_offset p5 p13
 let x190 := F_gen_offset p6 p14
 let x191 := F_gen_Mod (IntKind.i64.wrap (Int.tdiv p8 2)) 12
 let x192 := F_gen_Mod (IntKind.i64.wrap (Int.tdiv p9 2)) 12
 (1, x185, x186, x187, (IntKind.i64.wrap (1 + x188)), x189, x190, p18, (IntKind.i64.wrap (1 + x191)), (IntKind.i64.wrap (1 + x192)), false, false))
 else
 (let x193 := F_gen_Mod p1 p12
 let x194 := F_gen_offset p2 p13
 let x195 := F_gen_offset p3 p14
 let x196 := F_gen_Mod (IntKind.i64.wrap (Int.tdiv p4 4)) p12
 let x197 := F_gen_offset p5 p13
 let x198 := F_gen_offset p6 p14
 let x199 := F_gen_Mod (IntKind.i64.wrap (Int.tdiv p9 2)) 12
 (1, x193, x194, x195, (IntKind.i64.wrap (1 + x196)), x197, x198, p18, 4, (IntKind.i64.wrap (1 + x199)), false, false)))
 else
 (let x200 := F_gen_Mod p1 p12
 let x201 := F_gen_offset p2 p13
 let x202 := F_gen_offset p3 p14
 let x203 := F_gen_Mod (IntKind.i64.wrap (Int.tdiv p4 4)) p12
 let x204 := F_gen_offset p5 p13
 let x205 := F_gen_offset p6 p14
 let x206 := F_gen_Mod (IntKind.i64.wrap (Int.tdiv p9 2)) 12
 (1, x200, x201, x202, (IntKind.i64.wrap (1 + x203)), x204, x205, p18, 4, (IntKind.i64.wrap (1 + x206)), false, false)))
 else
 (bif p17 then
 (let x207 := F_gen_Mod p8 2
 bif (x207 == 0) then
 (let x208 := F_gen_Mod p1 p12
 let x209 := F_gen_offset p2 p13
 let x210 := F_gen_offset p3 p14
 let x211 := F_gen_Mod (IntKind.i64.wrap (Int.tdiv p4 4)) p12
 let x212 := F_gen_offset p5 p13
 let x213 := F_gen_offset p6 p14
 let x214 := F_gen_Mod (IntKind.i64.wrap (Int.tdiv p8 2)) 12
 (1, x208, x209, x210, (IntKind.i64.wrap (1 + x211)), x212, x213, p18, (IntKind.i64.wrap (1 + x214)), 1, false, false))
 else
 (let x215 := F_gen_Mod p1 p12
 let x216 := F_gen_offset p2 p13
 let x217 := F_gen_offset p3 p14
 let x218 := F_gen_Mod (IntKind.i64.wrap (Int.tdiv p4 4)) p12
 let x219 := F_gen_offset p5 p13
 let x220 := F_gen_offset p6 p14
 (1, x215, x216, x217, (IntKind.i64.wrap (1 + x218)), x219, x220, p18, 4, 1, false, false)))
 else
 (let x221 := F_gen_Mod p1 p12
 let x222 := F_gen_offset p2 p13
 let x223 := F_gen_offset p3 p14
 let x224 := F_gen_Mod (IntKind.i64.wrap (Int.tdiv p4 4)) p12
 let x225 := F_gen_offset p5 p13
 let x226 := F_gen_offset p6 p14
 (1, x221, x222, x223, (IntKind.i64.wrap (1 + x224)), x225, x226, p18, 4, 1, false, false)))))
 else
 (let x227 := F_gen_Mod p7 2
 bif (x227 == 0) then
 (let x228 := F_gen_Mod p9 2
 bif (x228 == 0) then
 (bif p17 then
 (let x229 := F_gen_Mod p8 2
 bif (x229 == 0) then
 (let x230 := F_gen_Mod p1 p12
 let x231 := F_gen_offset p2 p13
 let x232 := F_gen_offset p3 p14
 let x233 := F_gen_Sample (IntKind.i64.wrap (Int.tdiv p7 2)) p18
 let x234 := F_gen_Mod (IntKind.i64.wrap (Int.tdiv p8 2)) 12
 let x235 := F_gen_Mod (IntKind.i64.wrap (Int.tdiv p9 2)) 12
 (1, x230, x231, x232, 0, 0, 0, x233, (IntKind.i64.wrap (1 + x234)), (IntKind.i64.wrap (1 + x235)), false, false))
 else
 (let x236 := F_gen_Mod p1 p12
 let x237 := F_gen_offset p2 p13
 let x238 := F_gen_offset p3 p14
 let x239 := F_gen_Sample (IntKind.i64.wrap (Int.tdiv p7 2)) p18
 let x240 := F_gen_Mod (IntKind.i64.wrap (Int.tdiv p9 2)) 12
 (1, x236, x237, x238, 0, 0, 0, x239, 4, (IntKind.i64.wrap (1 + x240)), false, false)))
 else
 (let x241 := F_gen_Mod p1 p12
 let x242 := F_gen_offset p2 p13
 let x243 := F_gen_offset p3 p14
 let x244 := F_gen_Sample (IntKind.i64.wrap (Int.tdiv p7 2)) p18
 let x245 := F_gen_Mod (IntKind.i64.wrap (Int.tdiv p9 2)) 12
 (1, x241, x242, x243, 0, 0, 0, x244, 4, (IntKind.i64.wrap (1 + x245)), false, false)))
 else
 (bif p17 then
 (let x246 := F_gen_Mod p8 2
 bif (x246 == 0) then
 (let x247 := F_gen_Mod p1 p12
 let x248 := F_gen_offset p2 p13
 let x249 := F_gen_offset p3 p14
 let x250 := F_gen_Sample (IntKind.i64.wrap (Int.tdiv p7 2)) p18
 let x251 := F_gen_Mod (IntKind.i64.wrap (Int.tdiv p8 2)) 12
 (1, x247, x248, x249, 0, 0, 0, x250, (IntKind.i64.wrap (1 + x251)), 1, false, false))
 else
 (let x252 := F_gen_Mod p1 p12
 let x253 := F_gen_offset p2 p13
 let x254 := F_gen_offset p3 p14
 let x255 := F_gen_Sample (IntKind.i64.wrap (Int.tdiv p7 2)) p18
 (1, x252, x253, x254, 0, 0, 0, x255, 4, 1, false, false)))
 else
 (let x256 := F_gen_Mod p1 p12
 let x257 := F_gen_offset p2 p13
 let x258 := F_gen_offset p3 p14
 let x259 := F_gen_Sample (IntKind.i64.wrap (Int.tdiv p7 2)) p18
 (1, x256, x257, x258, 0, 0, 0, x259, 4, 1, false, false))))
 else
 (let x260 := F_gen_Mod p9 2
 bif (x260 == 0) then
 (bif p17 then
 (let x261 := F_gen_Mod p8 2
 bif (x261 == 0) then
 (let x262 := F_gen_Mod p1 p12
 let x263 := F_gen_offset p2 p13
 let x264 := F_gen_offset p3 p14
 let x265 := F_gen_Mod (IntKind.i64.wrap (Int.tdiv p8 2)) 12
 let x266 := F_gen_Mod (IntKind.i64.wrap (Int.tdiv p9 2)) 12
 (1, x262, x263, x264, 0, 0, 0, p18, (IntKind.i64.wrap (1 + x265)), (IntKind.i64.wrap (1 + x266)), false, false))
 else
 (let x267 := F_gen_Mod p1 p12
 let x268 := F_gen_offset p2 p13
 let x269 := F_gen_offset p3 p14
 let x270 := F_gen_Mod (IntKind.i64.wrap (Int.tdiv p9 2)) 12
 (1, x267, x268, x269, 0, 0, 0, p18, 4, (IntKind.i64.wrap (1 + x270)), false, false)))
 else
 (let x271 := F_gen_Mod p1 p12
 let x272 := F_gen_offset p2 p13
 let x273 := F_gen_offset p3 p14
 let x274 := F_gen_Mod (IntKind.i64.wrap (Int.tdiv p9 2)) 12
 (1, x271, x272, x273, 0, 0, 0, p18, 4, (IntKind.i64.wrap (1 + x274)), false, false)))
 else
 (bif p17 then
 (let x275 := F_gen_Mod p8 2
 bif (x275 == 0) then
 (let x276 := F_gen_Mod p1 p12
 let x277 := F_gen_offset p2 p13
 let x278 := F_gen_offset p3 p14
 let x279 := F_gen_Mod (IntKind.i64.wrap (Int.tdiv p8 2)) 12
 (1, x276, x277, x278, 0, 0, 0, p18, (IntKind.i64.wrap (1 + x279)), 1, false, false))
 else
 (let x280 := F_gen_Mod p1 p12
 let x281 := F_gen_offset p2 p13
 let x282 := F_gen_offset p3 p14
 (1, x280, x281, x282, 0, 0, 0, p18, 4, 1, false, false)))
 else
 (let x283 := F_gen_Mod p1 p12
 let x284 := F_gen_offset p2 p13
 let x285 := F_gen_offset p3 p14
 (1, x283, x284, x285, 0, 0, 0, p18, 4, 1, false, false)))))) :=
 spellV (L := L_gen_Op) (fun l => (num (l.getD 0 undef), num (l.getD 1 undef), num (l.getD 2 undef), num (l.getD 3 undef), num (l.getD 4 undef), num (l.getD 5 undef), num (l.getD 6 undef), num (l.getD 7 undef), num (l.getD 8 undef), num (l.getD 9 undef), tru (l.getD 10 undef), tru (l.getD 11 undef))) (evF Tryz.prog [S_gen_Mod, S_gen_Sample, S_gen_offset] 1000 12 (inL A_gen_Op [.int .i64 p0, .int .i64 p1, .int .i64 p2, .int .i64 p3, .int .i64 p4, .int .i64 p5, .int .i64 p6, .int .i64 p7, .int .i64 p8, .int .i64 p9, .int .i64 p10, .bool p11, .int .i64 p12, .int .i64 p13, .int .i64 p14, .int .i64 p15, .int .i64 p16, .bool p17, .int .u16 p18])) (L_gen_Op_is _) (by kernel_rfl)
def A_r6_Scale : List PS := [.agg [.i .u16, .i .u16, .i .u16, .i .u16, .i .u16], .c (.i .u16), .c (.i .u16)]
def R_r6_Scale : RS := .tup [.agg [.i .u16, .i .u16, .i .u16, .i .u16, .i .u16], .c (.b)]
def head_r6_Scale_5 : Shp := ⟨[.any, .p (.c (.h (.i .u16))), .p (.c (.h (.i .u16))), .p (.c (.p 0 0)), .any, .any, .p (.c (.p 1 0)), .any, .p (.c (.p 2 0)), .p (.c (.h (.i .i64))), .any, .any, .any, .any, .any, .any, .any, .any, .any, .any, .any, .any, .any, .any, .any, .any, .any, .any, .any, .any, .any, .any, .any, .any, .any, .any, .any, .any, .any, .any, .any, .any, .any, .any, .any, .any, .any, .any, .any, .any, .any, .any, .any, .any, .any, .any, .any, .any, .any, .any, .any, .any, .any, .any, .any, .any, .any], [(0, ⟨[.h (.i .u16), .h (.i .u16), .h (.i .u16), .h (.i .u16), .h (.i .u16)], 39, true, none⟩), (1, ⟨[.h (.i .u16), .h (.i .u16), .h (.i .u16), .h (.i .u16), .h (.i .u16)], 39, true, none⟩), (2, ⟨[.h (.i .u16), .h (.i .u16), .h (.i .u16), .h (.i .u16), .h (.i .u16)], 39, true, none⟩)]⟩
def outs_r6_Scale_5 : List (Xt × Shp × Nat) := [(.exit 0, ⟨[.any, .p (.c (.h (.i .u16))), .p (.c (.h (.i .u16))), .p (.c (.p 0 0)), .any, .any, .p (.c (.p 1 0)), .any, .p (.c (.p 2 0)), .any, .any, .any, .any, .any, .any, .any, .any, .any, .any, .any, .any, .any, .any, .any, .any, .any, .any, .any, .any, .any, .any, .any, .any, .any, .any, .any, .any, .any, .any, .any, .any, .any, .any, .any, .any, .any, .any, .any, .any, .any, .any, .any, .any, .any, .any, .any, .any, .any, .any, .any, .any, .any, .any, .any, .any, .any, .any], [(0, ⟨[.h (.i .u16), .h (.i .u16), .h (.i .u16), .h (.i .u16), .h (.i .u16)], 39, true, none⟩), (1, ⟨[.h (.i .u16), .h (.i .u16), .h (.i .u16), .h (.i .u16), .h (.i .u16)], 39, true, none⟩), (2, ⟨[.h (.i .u16), .h (.i .u16), .h (.i .u16), .h (.i .u16), .h (.i .u16)], 39, true, none⟩)]⟩, 3)]
noncomputable def OUT_r6_Scale_5 (p0 p1 p2 p3 p4 p5 p6 p7 p8 p9 p10 p11 p12 p13 p14 p15 p16 p17 : Int) : List Value :=
 bif (decide (p2 < 3)) then
 (bif (p2 == 0) then
 (bif (p2 == 0) then
 (let x0 := F_r1_Half (IntKind.u64.wrap (p3 * p0)) p1
 [.int .i64 (-1), .int .u16 p0, .int .u16 p1, .int .i64 (IntKind.i64.wrap (p2 + 1)), .int .u16 p3, .int .u16 p4, .int .u16 p5, .int .u16 p6, .int .u16 p7, .int .u16 p8, .int .u16 p9, .int .u16 p10, .int .u16 p11, .int .u16 p12, .int .u16 (IntKind.u16.wrap x0), .int .u16 p14, .int .u16 p15, .int .u16 p16, .int .u16 p17])
 else
 (bif (p2 == 1) then
 (let x1 := F_r1_Half (IntKind.u64.wrap (p3 * p0)) p1
 [.int .i64 (-1), .int .u16 p0, .int .u16 p1, .int .i64 (IntKind.i64.wrap (p2 + 1)), .int .u16 p3, .int .u16 p4, .int .u16 p5, .int .u16 p6, .int .u16 p7, .int .u16 p8, .int .u16 p9, .int .u16 p10, .int .u16 p11, .int .u16 p12, .int .u16 p13, .int .u16 (IntKind.u16.wrap x1), .int .u16 p15, .int .u16 p16, .int .u16 p17])
 else
 (bif (p2 == 2) then
 (let x2 := F_r1_Half (IntKind.u64.wrap (p3 * p0)) p1
 [.int .i64 (-1), .int .u16 p0, .int .u16 p1, .int .i64 (IntKind.i64.wrap (p2 + 1)), .int .u16 p3, .int .u16 p4, .int .u16 p5, .int .u16 p6, .int .u16 p7, .int .u16 p8, .int .u16 p9, .int .u16 p10, .int .u16 p11, .int .u16 p12, .int .u16 p13, .int .u16 p14, .int .u16 (IntKind.u16.wrap x2), .int .u16 p16, .int .u16 p17])
 else
 ([]))))
 else
 (bif (p2 == 1) then
 (bif (p2 == 0) then
 (let x3 := F_r1_Half (IntKind.u64.wrap (p4 * p0)) p1
 [.int .i64 (-1), .int .u16 p0, .int .u16 p1, .int .i64 (IntKind.i64.wrap (p2 + 1)), .int .u16 p3, .int .u16 p4, .int .u16 p5, .int .u16 p6, .int .u16 p7, .int .u16 p8, .int .u16 p9, .int .u16 p10, .int .u16 p11, .int .u16 p12, .int .u16 (IntKind.u16.wrap x3), .int .u16 p14, .int .u16 p15, .int .u16 p16, .int .u16 p17])
 else
 (bif (p2 == 1) then
 (let x4 := F_r1_Half (IntKind.u64.wrap (p4 * p0)) p1
 [.int .i64 (-1), .int .u16 p0, .int .u16 p1, .int .i64 (IntKind.i64.wrap (p2 + 1)), .int .u16 p3, .int .u16 p4, .int .u16 p5, .int .u16 p6, .int .u16 p7, .int .u16 p8, .int .u16 p9, .int .u16 p10, .int .u16 p11, .int .u16 p12, .int .u16 p13, .int .u16 (IntKind.u16.wrap x4), .int .u16 p15, .int .u16 p16, .int .u16 p17])
 else
 (bif (p2 == 2) then
 (let x5 := F_r1_Half (IntKind.u64.wrap (p4 * p0)) p1
 [.int .i64 (-1), .int .u16 p0, .int .u16 p1, .int .i64 (IntKind.i64.wrap (p2 + 1)), .int .u16 p3, .int .u16 p4, .int .u16 p5, .int .u16 p6, .int .u16 p7, .int .u16 p8, .int .u16 p9, .int .u16 p10, .int .u16 p11, .int .u16 p12, .int .u16 p13, .int .u16 p14, .int .u16 (IntKind.u16.wrap x5), .int .u16 p16, .int .u16 p17])
 else
 ([]))))
 else
 (bif (p2 == 2) then
 (bif (p2 == 0) then
 (let x6 := F_r1_Half (IntKind.u64.wrap (p5 * p0)) p1
 [.int .i64 (-1), .int .u16 p0, .int .u16 p1, .int .i64 (IntKind.i64.wrap (p2 + 1)), .int .u16 p3, .int .u16 p4, .int .u16 p5, .int .u16 p6, .int .u16 p7, .int .u16 p8, .int .u16 p9, .int .u16 p10, .int .u16 p11, .int .u16 p12, .int .u16 (IntKind.u16.wrap x6), .int .u16 p14, .int .u16 p15, .int .u16 p16, .int .u16 p17])
 else
 (bif (p2 == 1) then
 (let x7 := F_r1_Half (IntKind.u64.wrap (p5 * p0)) p1
 [.int .i64 (-1), .int .u16 p0, .int .u16 p1, .int .i64 (IntKind.i64.wrap (p2 + 1)), .int .u16 p3, .int .u16 p4, .int .u16 p5, .int .u16 p6, .int .u16 p7, .int .u16 p8, .int .u16 p9, .int .u16 p10, .int .u16 p11, .int .u16 p12, .int .u16 p13, .int .u16 (IntKind.u16.wrap x7), .int .u16 p15, .int .u16 p16, .int .u16 p17])
 else
 (bif (p2 == 2) then
 (let x8 := F_r1_Half (IntKind.u64.wrap (p5 * p0)) p1
 [.int .i64 (-1), .int .u16 p0, .int .u16 p1, .int .i64 (IntKind.i64.wrap (p2 + 1)), .int .u16 p3, .int .u16 p4, .int .u16 p5, .int .u16 p6, .int .u16 p7, .int .u16 p8, .int .u16 p9, .int .u16 p10, .int .u16 p11, .int .u16 p12, .int .u16 p13, .int .u16 p14, .int .u16 (IntKind.u16.wrap x8), .int .u16 p16, .int .u16 p17])
 else
 ([]))))
 else
 ([]))))
 else
 ([.int .i64 0, .int .u16 p0, .int .u16 p1, .int .u16 p3, .int .u16 p4, .int .u16 p5, .int .u16 p6, .int .u16 p7, .int .u16 p8, .int .u16 p9, .int .u16 p10, .int .u16 p11, .int .u16 p12, .int .u16 p13, .int .u16 p14, .int .u16 p15, .int .u16 p16, .int .u16 p17])
noncomputable def OL_r6_Scale_5 (xs : List Value) : List Value := OUT_r6_Scale_5 (num (xs.getD 0 undef)) (num (xs.getD 1 undef)) (num (xs.getD 2 undef)) (num (xs.getD 3 undef)) (num (xs.getD 4 undef)) (num (xs.getD 5 undef)) (num (xs.getD 6 undef)) (num (xs.getD 7 undef)) (num (xs.getD 8 undef)) (num (xs.getD 9 undef)) (num (xs.getD 10 undef)) (num (xs.getD 11 undef)) (num (xs.getD 12 undef)) (num (xs.getD 13 undef)) (num (xs.getD 14 undef)) (num (xs.getD 15 undef)) (num (xs.getD 16 undef)) (num (xs.getD 17 undef))
noncomputable def LF_r6_Scale_5 : List Value → List Value := LFof OL_r6_Scale_5
def pre_r6_Scale_5 (xs : List Value) : Bool := decide (0 ≤ num (xs.getD 2 undef)) && decide (num (xs.getD 2 undef) ≤ 3)
noncomputable def LC_r6_Scale_5 : LoopC := ⟨63, 5, LF_r6_Scale_5, pre_r6_Scale_5, 3, head_r6_Scale_5, outs_r6_Scale_5⟩
theorem LF_r6_Scale_5_go (p0 p1 p2 p3 p4 p5 p6 p7 p8 p9 p10 p11 p12 p13 p14 p15 p16 p17 : Int) : LF_r6_Scale_5 [.int .u16 p0, .int .u16 p1, .int .i64 p2, .int .u16 p3, .int .u16 p4, .int .u16 p5, .int .u16 p6, .int .u16 p7, .int .u16 p8, .int .u16 p9, .int .u16 p10, .int .u16 p11, .int .u16 p12, .int .u16 p13, .int .u16 p14, .int .u16 p15, .int .u16 p16, .int .u16 p17] = goOn LF_r6_Scale_5 (OUT_r6_Scale_5 p0 p1 p2 p3 p4 p5 p6 p7 p8 p9 p10 p11 p12 p13 p14 p15 p16 p17) := LFof_eq _ _
theorem okBL_r6_Scale_5 (p0 p1 p2 p3 p4 p5 p6 p7 p8 p9 p10 p11 p12 p13 p14 p15 p16 p17 : Int) : (evL ⟨[], []⟩ Tryz.prog [S_r1_Half, S_r1_Full, S_r1_ValidPixel] 1000 LC_r6_Scale_5 [.int .u16 p0, .int .u16 p1, .int .i64 p2, .int .u16 p3, .int .u16 p4, .int .u16 p5, .int .u16 p6, .int .u16 p7, .int .u16 p8, .int .u16 p9, .int .u16 p10, .int .u16 p11, .int .u16 p12, .int .u16 p13, .int .u16 p14, .int .u16 p15, .int .u16 p16, .int .u16 p17]).ok =
 bif (decide (p2 < 3)) then
 (bif (p2 == 0) then
 (bif (p2 == 0) then
 (true)
 else
 (bif (p2 == 1) then
 (true)
 else
 (bif (p2 == 2) then
 (true)
 else
 (false))))
 else
 (bif (p2 == 1) then
 (bif (p2 == 0) then
 (true)
 else
 (bif (p2 == 1) then
 (true)
 else
 (bif (p2 == 2) then
 (true)
 else
 (false))))
 else
 (bif (p2 == 2) then
 (bif (p2 == 0) then
 (true)
 else
 (bif (p2 == 1) then
 (true)
 else
 (bif (p2 == 2) then
 (true)
 else
 (false))))
 else
 (false))))
 else
 (true) := (okR_eq _).trans (by kernel_rfl)
theorem step_r6_Scale_5 (p0 p1 p2 p3 p4 p5 p6 p7 p8 p9 p10 p11 p12 p13 p14 p15 p16 p17 : Int) : (evL ⟨[], []⟩ Tryz.prog [S_r1_Half, S_r1_Full, S_r1_ValidPixel] 1000 LC_r6_Scale_5 [.int .u16 p0, .int .u16 p1, .int .i64 p2, .int .u16 p3, .int .u16 p4, .int .u16 p5, .int .u16 p6, .int .u16 p7, .int .u16 p8, .int .u16 p9, .int .u16 p10, .int .u16 p11, .int .u16 p12, .int .u16 p13, .int .u16 p14, .int .u16 p15, .int .u16 p16, .int .u16 p17]).outL = OUT_r6_Scale_5 p0 p1 p2 p3 p4 p5 p6 p7 p8 p9 p10 p11 p12 p13 p14 p15 p16 p17 := (fold_eq (fun l => l) _).trans (by kernel_rfl)
theorem one_r6_Scale_5 : (loopsBy Tryz.prog 63 5).length = 1 := by kernel_rfl
theorem env_r6_Scale_5 : EnvOK Tryz.prog InvN ⟨[], []⟩ ∧ AllOK Tryz.prog InvN [S_r1_Half, S_r1_Full, S_r1_ValidPixel] := ⟨⟨allC_nil, allL_nil⟩, (allOK_cons ok_r1_Half.any (allOK_cons ok_r1_Full.any (allOK_cons ok_r1_ValidPixel allOK_nil)))⟩
theorem lp_r6_Scale_5 (meas : List Value → Nat) (h : ∀ p0 p1 p2 p3 p4 p5 p6 p7 p8 p9 p10 p11 p12 p13 p14 p15 p16 p17, IntKind.u16.min ≤ p0 → p0 ≤ IntKind.u16.max → IntKind.u16.min ≤ p1 → p1 ≤ IntKind.u16.max → IntKind.i64.min ≤ p2 → p2 ≤ IntKind.i64.max → IntKind.u16.min ≤ p3 → p3 ≤ IntKind.u16.max → IntKind.u16.min ≤ p4 → p4 ≤ IntKind.u16.max → IntKind.u16.min ≤ p5 → p5 ≤ IntKind.u16.max → IntKind.u16.min ≤ p6 → p6 ≤ IntKind.u16.max → IntKind.u16.min ≤ p7 → p7 ≤ IntKind.u16.max → IntKind.u16.min ≤ p8 → p8 ≤ IntKind.u16.max → IntKind.u16.min ≤ p9 → p9 ≤ IntKind.u16.max → IntKind.u16.min ≤ p10 → p10 ≤ IntKind.u16.max → IntKind.u16.min ≤ p11 → p11 ≤ IntKind.u16.max → IntKind.u16.min ≤ p12 → p12 ≤ IntKind.u16.max → IntKind.u16.min ≤ p13 → p13 ≤ IntKind.u16.max → IntKind.u16.min ≤ p14 → p14 ≤ IntKind.u16.max → IntKind.u16.min ≤ p15 → p15 ≤ IntKind.u16.max → IntKind.u16.min ≤ p16 → p16 ≤ IntKind.u16.max → IntKind.u16.min ≤ p17 → p17 ≤ IntKind.u16.max → pre_r6_Scale_5 [.int .u16 p0, .int .u16 p1, .int .i64 p2, .int .u16 p3, .int .u16 p4, .int .u16 p5, .int .u16 p6, .int .u16 p7, .int .u16 p8, .int .u16 p9, .int .u16 p10, .int .u16 p11, .int .u16 p12, .int .u16 p13, .int .u16 p14, .int .u16 p15, .int .u16 p16, .int .u16 p17] = true → (evL ⟨[], []⟩ Tryz.prog [S_r1_Half, S_r1_Full, S_r1_ValidPixel] 1000 LC_r6_Scale_5 [.int .u16 p0, .int .u16 p1, .int .i64 p2, .int .u16 p3, .int .u16 p4, .int .u16 p5, .int .u16 p6, .int .u16 p7, .int .u16 p8, .int .u16 p9, .int .u16 p10, .int .u16 p11, .int .u16 p12, .int .u16 p13, .int .u16 p14, .int .u16 p15, .int .u16 p16, .int .u16 p17]).ok = true ∧ okO pre_r6_Scale_5 meas (meas [.int .u16 p0, .int .u16 p1, .int .i64 p2, .int .u16 p3, .int .u16 p4, .int .u16 p5, .int .u16 p6, .int .u16 p7, .int .u16 p8, .int .u16 p9, .int .u16 p10, .int .u16 p11, .int .u16 p12, .int .u16 p13, .int .u16 p14, .int .u16 p15, .int .u16 p16, .int .u16 p17]) (OUT_r6_Scale_5 p0 p1 p2 p3 p4 p5 p6 p7 p8 p9 p10 p11 p12 p13 p14 p15 p16 p17)) : LoopTrue Tryz.prog InvN LC_r6_Scale_5 := loop_lf env_r6_Scale_5 1000 LC_r6_Scale_5 one_r6_Scale_5 meas OL_r6_Scale_5 rfl (by
 refine kLi fun p0 p0lo p0hi => ?_
 refine kLi fun p1 p1lo p1hi => ?_
 refine kLi fun p2 p2lo p2hi => ?_
 refine kLi fun p3 p3lo p3hi => ?_
 refine kLi fun p4 p4lo p4hi => ?_
 refine kLi fun p5 p5lo p5hi => ?_
 refine kLi fun p6 p6lo p6hi => ?_
 refine kLi fun p7 p7lo p7hi => ?_
 refine kLi fun p8 p8lo p8hi => ?_
 refine kLi fun p9 p9lo p9hi => ?_
 refine kLi fun p10 p10lo p10hi => ?_
 refine kLi fun p11 p11lo p11hi => ?_
 refine kLi fun p12 p12lo p12hi => ?_
 refine kLi fun p13 p13lo p13hi => ?_
 refine kLi fun p14 p14lo p14hi => ?_
 refine kLi fun p15 p15lo p15hi => ?_
 refine kLi fun p16 p16lo p16hi => ?_
 refine kLi fun p17 p17lo p17hi => ?_
 refine kLn ?_
 intro hp
 have h := h p0 p1 p2 p3 p4 p5 p6 p7 p8 p9 p10 p11 p12 p13 p14 p15 p16 p17 p0lo p0hi p1lo p1hi p2lo p2hi p3lo p3hi p4lo p4hi p5lo p5hi p6lo p6hi p7lo p7hi p8lo p8hi p9lo p9hi p10lo p10hi p11lo p11hi p12lo p12hi p13lo p13hi p14lo p14hi p15lo p15hi p16lo p16hi p17lo p17hi hp
 exact ⟨h.1, step_r6_Scale_5 p0 p1 p2 p3 p4 p5 p6 p7 p8 p9 p10 p11 p12 p13 p14 p15 p16 p17, h.2⟩)
theorem ok_r6_Scale_5 : LoopTrue Tryz.prog InvN LC_r6_Scale_5 := lp_r6_Scale_5 (fun xs => (3 - num (xs.getD 2 undef)).toNat) (by
 intro p0 p1 p2 p3 p4 p5 p6 p7 p8 p9 p10 p11 p12 p13 p14 p15 p16 p17 _ _ _ _ _ _ _ _ _ _ _ _ _ _ _ _ _ _ _ _ _ _ _ _ _ _ _ _ _ _ _ _ _ _ _ _ hp
 have hp : (decide (0 ≤ p2) && decide (p2 ≤ 3)) = true := hp
 simp only [Bool.and_eq_true, decide_eq_true_eq] at hp
 have nx : ∀ ys, p2 < 3 → okO pre_r6_Scale_5 (fun xs => (3 - num (xs.getD 2 undef)).toNat) (3 - p2).toNat (.int .i64 (-1) :: .int .u16 p0 :: .int .u16 p1 :: .int .i64 (IntKind.i64.wrap (p2 + 1)) :: ys) := fun ys h => okO_next (by
  show (decide (0 ≤ IntKind.i64.wrap (p2 + 1)) && decide (IntKind.i64.wrap (p2 + 1) ≤ 3)) = true
  rw [i64_in (by omega) (by omega)]
  simp only [Bool.and_eq_true, decide_eq_true_eq]
  omega) (by
  show (3 - IntKind.i64.wrap (p2 + 1)).toNat < _
  rw [i64_in (by omega) (by omega)]
  omega)
 rw [okBL_r6_Scale_5]
 refine ⟨bif_ok (fun h => ?_) (fun _ => rfl), ?_⟩
 ·have h : p2 < 3 := of_decide_eq_true h
  have : p2 = 0 ∨ p2 = 1 ∨ p2 = 2 := by omega
  rcases this with rfl | rfl | rfl <;> rfl
 ·unfold OUT_r6_Scale_5
  dsimp only
  refine okO_bif (fun h => ?_) (fun _ => okO_exit 0)
  have h : p2 < 3 := of_decide_eq_true h
  have : p2 = 0 ∨ p2 = 1 ∨ p2 = 2 := by omega
  rcases this with rfl | rfl | rfl <;> simp only [Int.reduceBEq, cond_true, cond_false] <;> exact nx _ (by decide))
noncomputable def L_r6_Scale : List Value → List Value := Classical.choose (veil fun vs => (evFM ⟨[], [LC_r6_Scale_5]⟩ Tryz.prog [S_r1_Half, S_r1_Full, S_r1_ValidPixel] 1000 63 (inL A_r6_Scale vs) R_r6_Scale).outL)
theorem L_r6_Scale_is (vs : List Value) : L_r6_Scale vs = (evFM ⟨[], [LC_r6_Scale_5]⟩ Tryz.prog [S_r1_Half, S_r1_Full, S_r1_ValidPixel] 1000 63 (inL A_r6_Scale vs) R_r6_Scale).outL := Classical.choose_spec (veil _) vs
noncomputable def S_r6_Scale : Sum := ⟨63, L_r6_Scale, A_r6_Scale, R_r6_Scale⟩
theorem env_r6_Scale : EnvOK Tryz.prog InvN ⟨[], [LC_r6_Scale_5]⟩ ∧ AllOK Tryz.prog InvN [S_r1_Half, S_r1_Full, S_r1_ValidPixel] := ⟨⟨allC_nil, (allL_cons ok_r6_Scale_5 allL_nil)⟩, (allOK_cons ok_r1_Half.any (allOK_cons ok_r1_Full.any (allOK_cons ok_r1_ValidPixel allOK_nil)))⟩
theorem okG_r6_Scale (vs : List Value) : (evFM ⟨[], [LC_r6_Scale_5]⟩ Tryz.prog [S_r1_Half, S_r1_Full, S_r1_ValidPixel] 1000 63 (inL A_r6_Scale vs) R_r6_Scale).goodX R_r6_Scale = true := by kernel_rfl
theorem okB_r6_Scale (p0 p1 p2 p3 p4 p5 p6 : Int) : (evFM ⟨[], [LC_r6_Scale_5]⟩ Tryz.prog [S_r1_Half, S_r1_Full, S_r1_ValidPixel] 1000 63 (inL A_r6_Scale [.int .u16 p0, .int .u16 p1, .int .u16 p2, .int .u16 p3, .int .u16 p4, .int .u16 p5, .int .u16 p6]) R_r6_Scale).ok =
 let x0 := F_r1_Full p6
 bif (!x0) then
 (true)
 else
 (let x1 := F_r1_ValidPixel p0 p1 p2 p3 p4 p6
 bif (!x1) then
 (true)
 else
 (bif (decide (p5 > p6)) then
 (true)
 else
 (bif (pre_r6_Scale_5 [.int .u16 p5, .int .u16 p6, .int .i64 0, .int .u16 p0, .int .u16 p1, .int .u16 p2, .int .u16 p3, .int .u16 p4, .int .u16 0, .int .u16 0, .int .u16 0, .int .u16 0, .int .u16 0, .int .u16 0, .int .u16 0, .int .u16 0, .int .u16 0, .int .u16 0]) then
 (true)
 else
 (false)))) := (okR_eq _).trans (by kernel_rfl)
theorem okA_r6_Scale (h : ∀ p0 p1 p2 p3 p4 p5 p6 , IntKind.u16.min ≤ p0 → p0 ≤ IntKind.u16.max → IntKind.u16.min ≤ p1 → p1 ≤ IntKind.u16.max → IntKind.u16.min ≤ p2 → p2 ≤ IntKind.u16.max → IntKind.u16.min ≤ p3 → p3 ≤ IntKind.u16.max → IntKind.u16.min ≤ p4 → p4 ≤ IntKind.u16.max → IntKind.u16.min ≤ p5 → p5 ≤ IntKind.u16.max → IntKind.u16.min ≤ p6 → p6 ≤ IntKind.u16.max → (evFM ⟨[], [LC_r6_Scale_5]⟩ Tryz.prog [S_r1_Half, S_r1_Full, S_r1_ValidPixel] 1000 63 (inL A_r6_Scale [.int .u16 p0, .int .u16 p1, .int .u16 p2, .int .u16 p3, .int .u16 p4, .int .u16 p5, .int .u16 p6]) R_r6_Scale).ok = true) : SumOK Tryz.prog InvN S_r6_Scale := sumOK_partL invN_stays env_r6_Scale.1 env_r6_Scale.2 1000 63 A_r6_Scale R_r6_Scale L_r6_Scale_is okG_r6_Scale (by
 refine kLi fun p0 p0lo p0hi => ?_
 refine kLi fun p1 p1lo p1hi => ?_
 refine kLi fun p2 p2lo p2hi => ?_
 refine kLi fun p3 p3lo p3hi => ?_
 refine kLi fun p4 p4lo p4hi => ?_
 refine kLi fun p5 p5lo p5hi => ?_
 refine kLi fun p6 p6lo p6hi => ?_
 refine kLn ?_
 exact h p0 p1 p2 p3 p4 p5 p6 p0lo p0hi p1lo p1hi p2lo p2hi p3lo p3hi p4lo p4hi p5lo p5hi p6lo p6hi)
theorem ok_r6_Scale : SumOK Tryz.prog InvN S_r6_Scale := okA_r6_Scale (by
 intro p0 p1 p2 p3 p4 p5 p6 _ _ _ _ _ _ _ _ _ _ _ _ _ _
 rw [okB_r6_Scale]
 refine bif_ok (fun _ => rfl) fun _ => ?_
 refine bif_ok (fun _ => rfl) fun _ => ?_
 refine bif_ok (fun _ => rfl) fun _ => ?_
 exact bif_ok (fun _ => rfl) (fun h => bool_no (c := true) rfl h))
noncomputable def F_r6_Scale (p0 p1 p2 p3 p4 p5 p6 : Int) : Int × Int × Int × Int × Int × Bool := (fun l => (num (l.getD 0 undef), num (l.getD 1 undef), num (l.getD 2 undef), num (l.getD 3 undef), num (l.getD 4 undef), tru (l.getD 5 undef))) (L_r6_Scale [.int .u16 p0, .int .u16 p1, .int .u16 p2, .int .u16 p3, .int .u16 p4, .int .u16 p5, .int .u16 p6])
theorem F_r6_Scale_eq (p0 p1 p2 p3 p4 p5 p6 : Int) : F_r6_Scale p0 p1 p2 p3 p4 p5 p6 =
 let x0 := F_r1_Full p6
 bif (!x0) then
 ((0, 0, 0, 0, 0, false))
 else
 (let x1 := F_r1_ValidPixel p0 p1 p2 p3 p4 p6
 bif (!x1) then
 ((0, 0, 0, 0, 0, false))
 else
 (bif (decide (p5 > p6)) then
 ((0, 0, 0, 0, 0, false))
 else
 (bif (pre_r6_Scale_5 [.int .u16 p5, .int .u16 p6, .int .i64 0, .int .u16 p0, .int .u16 p1, .int .u16 p2, .int .u16 p3, .int .u16 p4, .int .u16 0, .int .u16 0, .int .u16 0, .int .u16 0, .int .u16 0, .int .u16 0, .int .u16 0, .int .u16 0, .int .u16 0, .int .u16 0]) then
 (let x2 := LF_r6_Scale_5 [.int .u16 p5, .int .u16 p6, .int .i64 0, .int .u16 p0, .int .u16 p1, .int .u16 p2, .int .u16 p3, .int .u16 p4, .int .u16 0, .int .u16 0, .int .u16 0, .int .u16 0, .int .u16 0, .int .u16 0, .int .u16 0, .int .u16 0, .int .u16 0, .int .u16 0]
 let x3 := F_r1_Half (IntKind.u64.wrap ((num (x2.getD 6 undef)) * (num (x2.getD 1 undef)))) (num (x2.getD 2 undef))
 let x4 := F_r1_Half (IntKind.u64.wrap ((num (x2.getD 7 undef)) * (num (x2.getD 1 undef)))) (num (x2.getD 2 undef))
 ((num (x2.getD 13 undef)), (num (x2.getD 14 undef)), (num (x2.getD 15 undef)), (IntKind.u16.wrap x3), (IntKind.u16.wrap x4), true))
 else
 (((num undef), (num undef), (num undef), (num undef), (num undef), (tru undef)))))) :=
 spellV (L := L_r6_Scale) (fun l => (num (l.getD 0 undef), num (l.getD 1 undef), num (l.getD 2 undef), num (l.getD 3 undef), num (l.getD 4 undef), tru (l.getD 5 undef))) (evFM ⟨[], [LC_r6_Scale_5]⟩ Tryz.prog [S_r1_Half, S_r1_Full, S_r1_ValidPixel] 1000 63 (inL A_r6_Scale [.int .u16 p0, .int .u16 p1, .int .u16 p2, .int .u16 p3, .int .u16 p4, .int .u16 p5, .int .u16 p6]) R_r6_Scale) (L_r6_Scale_is _) (by kernel_rfl)
def A_r6_Both : List PS := [.agg [.i .u16, .i .u16, .i .u16, .i .u16, .i .u16], .c (.i .u16), .c (.i .u16), .c (.i .u16)]
def R_r6_Both : RS := .tup [.agg [.i .u16, .i .u16, .i .u16, .i .u16, .i .u16], .c (.b)]
noncomputable def L_r6_Both : List Value → List Value := Classical.choose (veil fun vs => (evFM ⟨[], []⟩ Tryz.prog [S_r6_Scale] 1000 53 (inL A_r6_Both vs) R_r6_Both).outL)
theorem L_r6_Both_is (vs : List Value) : L_r6_Both vs = (evFM ⟨[], []⟩ Tryz.prog [S_r6_Scale] 1000 53 (inL A_r6_Both vs) R_r6_Both).outL := Classical.choose_spec (veil _) vs
noncomputable def S_r6_Both : Sum := ⟨53, L_r6_Both, A_r6_Both, R_r6_Both⟩
theorem env_r6_Both : EnvOK Tryz.prog InvN ⟨[], []⟩ ∧ AllOK Tryz.prog InvN [S_r6_Scale] := ⟨⟨allC_nil, allL_nil⟩, (allOK_cons ok_r6_Scale allOK_nil)⟩
theorem okG_r6_Both (vs : List Value) : (evFM ⟨[], []⟩ Tryz.prog [S_r6_Scale] 1000 53 (inL A_r6_Both vs) R_r6_Both).goodX R_r6_Both = true := by kernel_rfl
theorem ok_r6_Both : SumOK Tryz.prog InvN S_r6_Both := sumOK_partL invN_stays env_r6_Both.1 env_r6_Both.2 1000 53 A_r6_Both R_r6_Both L_r6_Both_is okG_r6_Both (fun vs _ => ok_of_sure (t := evFM ⟨[], []⟩ Tryz.prog [S_r6_Scale] 1000 53 (inL A_r6_Both vs) R_r6_Both) (by kernel_rfl))
noncomputable def F_r6_Both (p0 p1 p2 p3 p4 p5 p6 p7 : Int) : Int × Int × Int × Int × Int × Bool := (fun l => (num (l.getD 0 undef), num (l.getD 1 undef), num (l.getD 2 undef), num (l.getD 3 undef), num (l.getD 4 undef), tru (l.getD 5 undef))) (L_r6_Both [.int .u16 p0, .int .u16 p1, .int .u16 p2, .int .u16 p3, .int .u16 p4, .int .u16 p5, .int .u16 p6, .int .u16 p7])
theorem F_r6_Both_eq (p0 p1 p2 p3 p4 p5 p6 p7 : Int) : F_r6_Both p0 p1 p2 p3 p4 p5 p6 p7 =
 let x0 := F_r6_Scale p0 p1 p2 p3 p4 p5 p7
 bif (!x0.2.2.2.2.2) then
 ((0, 0, 0, 0, 0, false))
 else
 (let x1 := F_r6_Scale x0.1 x0.2.1 x0.2.2.1 x0.2.2.2.1 x0.2.2.2.2.1 p6 p7
 (x1.1, x1.2.1, x1.2.2.1, x1.2.2.2.1, x1.2.2.2.2.1, x1.2.2.2.2.2)) :=
 spellV (L := L_r6_Both) (fun l => (num (l.getD 0 undef), num (l.getD 1 undef), num (l.getD 2 undef), num (l.getD 3 undef), num (l.getD 4 undef), tru (l.getD 5 undef))) (evFM ⟨[], []⟩ Tryz.prog [S_r6_Scale] 1000 53 (inL A_r6_Both [.int .u16 p0, .int .u16 p1, .int .u16 p2, .int .u16 p3, .int .u16 p4, .int .u16 p5, .int .u16 p6, .int .u16 p7]) R_r6_Both) (L_r6_Both_is _) (by kernel_rfl)
def A_fM_top : List PS := [.c (.q [.i .u16, .l LV])]
def R_fM_top : RS := .one (.agg LV)
noncomputable def L_fM_top : List Value → List Value := Classical.choose (veil fun vs => (evFM ⟨[], []⟩ Tryz.prog [] 1000 37 (inL A_fM_top vs) R_fM_top).outL)
theorem L_fM_top_is (vs : List Value) : L_fM_top vs = (evFM ⟨[], []⟩ Tryz.prog [] 1000 37 (inL A_fM_top vs) R_fM_top).outL := Classical.choose_spec (veil _) vs
def pre_fM_top : List Value → Bool := fun vs => lenOK (CV (vs.getD 0 undef) 1)
noncomputable def C_fM_top : CSum := ⟨37, L_fM_top, pre_fM_top, A_fM_top, R_fM_top⟩
theorem env_fM_top : EnvOK Tryz.prog InvN ⟨[], []⟩ ∧ AllOK Tryz.prog InvN [] := ⟨⟨allC_nil, allL_nil⟩, allOK_nil⟩
theorem okG_fM_top (vs : List Value) : (evFM ⟨[], []⟩ Tryz.prog [] 1000 37 (inL A_fM_top vs) R_fM_top).goodX R_fM_top = true := by kernel_rfl
theorem okB_fM_top (p0 : Value) : (evFM ⟨[], []⟩ Tryz.prog [] 1000 37 (inL A_fM_top [p0]) R_fM_top).ok =
 bif (INB (CV p0 1) (IntKind.i64.wrap ((LN (CV p0 1)) - 1))) then
 (true)
 else
 (false) := (okR_eq _).trans (by kernel_rfl)
theorem okA_fM_top (h : ∀ p0 , inKind (.q [.i .u16, .l LV]) p0 → pre_fM_top [p0] = true → (evFM ⟨[], []⟩ Tryz.prog [] 1000 37 (inL A_fM_top [p0]) R_fM_top).ok = true) : CSumOK Tryz.prog InvN C_fM_top := csumOK_partV invN_stays env_fM_top.1 env_fM_top.2 1000 37 A_fM_top R_fM_top L_fM_top_is pre_fM_top okG_fM_top (fun vs hk hp => by
 obtain ⟨p0, _, rfl, p0k, rfl⟩ := hk
 exact h p0 p0k hp)
theorem ok_fM_top : CSumOK Tryz.prog InvN C_fM_top := okA_fM_top fun p0 _ hp => by
 have hp : lenOK (CV p0 1) = true := hp
 rw [okB_fM_top, lenOK.last hp]
 rfl
noncomputable def F_fM_top (p0 : Value) : Int × Int × Int × Int × Int × Int × Int × Int × Int × Int × Bool × Bool × Int × Int × Int × Int × Int × Int × Int × Int × Int × Int × Int := (fun l => (num (l.getD 0 undef), num (l.getD 1 undef), num (l.getD 2 undef), num (l.getD 3 undef), num (l.getD 4 undef), num (l.getD 5 undef), num (l.getD 6 undef), num (l.getD 7 undef), num (l.getD 8 undef), num (l.getD 9 undef), tru (l.getD 10 undef), tru (l.getD 11 undef), num (l.getD 12 undef), num (l.getD 13 undef), num (l.getD 14 undef), num (l.getD 15 undef), num (l.getD 16 undef), num (l.getD 17 undef), num (l.getD 18 undef), num (l.getD 19 undef), num (l.getD 20 undef), num (l.getD 21 undef), num (l.getD 22 undef))) (L_fM_top [p0])
theorem F_fM_top_eq (p0 : Value) : F_fM_top p0 =
 bif (INB (CV p0 1) (IntKind.i64.wrap ((LN (CV p0 1)) - 1))) then
 (((num (CV (IX (CV p0 1) (IntKind.i64.wrap ((LN (CV p0 1)) - 1))) 0)), (num (CV (IX (CV p0 1) (IntKind.i64.wrap ((LN (CV p0 1)) - 1))) 1)), (num (CV (IX (CV p0 1) (IntKind.i64.wrap ((LN (CV p0 1)) - 1))) 2)), (num (CV (IX (CV p0 1) (IntKind.i64.wrap ((LN (CV p0 1)) - 1))) 3)), (num (CV (IX (CV p0 1) (IntKind.i64.wrap ((LN (CV p0 1)) - 1))) 4)), (num (CV (IX (CV p0 1) (IntKind.i64.wrap ((LN (CV p0 1)) - 1))) 5)), (num (CV (IX (CV p0 1) (IntKind.i64.wrap ((LN (CV p0 1)) - 1))) 6)), (num (CV (IX (CV p0 1) (IntKind.i64.wrap ((LN (CV p0 1)) - 1))) 7)), (num (CV (IX (CV p0 1) (IntKind.i64.wrap ((LN (CV p0 1)) - 1))) 8)), (num (CV (IX (CV p0 1) (IntKind.i64.wrap ((LN (CV p0 1)) - 1))) 9)), (tru (CV (IX (CV p0 1) (IntKind.i64.wrap ((LN (CV p0 1)) - 1))) 10)), (tru (CV (IX (CV p0 1) (IntKind.i64.wrap ((LN (CV p0 1)) - 1))) 11)), (num (CV (IX (CV p0 1) (IntKind.i64.wrap ((LN (CV p0 1)) - 1))) 12)), (num (CV (IX (CV p0 1) (IntKind.i64.wrap ((LN (CV p0 1)) - 1))) 13)), (num (CV (IX (CV p0 1) (IntKind.i64.wrap ((LN (CV p0 1)) - 1))) 14)), (num (CV (IX (CV p0 1) (IntKind.i64.wrap ((LN (CV p0 1)) - 1))) 15)), (num (CV (IX (CV p0 1) (IntKind.i64.wrap ((LN (CV p0 1)) - 1))) 16)), (num (CV (IX (CV p0 1) (IntKind.i64.wrap ((LN (CV p0 1)) - 1))) 17)), (num (CV (IX (CV p0 1) (IntKind.i64.wrap ((LN (CV p0 1)) - 1))) 18)), (num (CV (IX (CV p0 1) (IntKind.i64.wrap ((LN (CV p0 1)) - 1))) 19)), (num (CV (IX (CV p0 1) (IntKind.i64.wrap ((LN (CV p0 1)) - 1))) 20)), (num (CV (IX (CV p0 1) (IntKind.i64.wrap ((LN (CV p0 1)) - 1))) 21)), (num (CV (IX (CV p0 1) (IntKind.i64.wrap ((LN (CV p0 1)) - 1))) 22))))
 else
 (((num undef), (num undef), (num undef), (num undef), (num undef), (num undef), (num undef), (num undef), (num undef), (num undef), (tru undef), (tru undef), (num undef), (num undef), (num undef), (num undef), (num undef), (num undef), (num undef), (num undef), (num undef), (num undef), (num undef))) :=
 spellV (L := L_fM_top) (fun l => (num (l.getD 0 undef), num (l.getD 1 undef), num (l.getD 2 undef), num (l.getD 3 undef), num (l.getD 4 undef), num (l.getD 5 undef), num (l.getD 6 undef), num (l.getD 7 undef), num (l.getD 8 undef), num (l.getD 9 undef), tru (l.getD 10 undef), tru (l.getD 11 undef), num (l.getD 12 undef), num (l.getD 13 undef), num (l.getD 14 undef), num (l.getD 15 undef), num (l.getD 16 undef), num (l.getD 17 undef), num (l.getD 18 undef), num (l.getD 19 undef), num (l.getD 20 undef), num (l.getD 21 undef), num (l.getD 22 undef))) (evFM ⟨[], []⟩ Tryz.prog [] 1000 37 (inL A_fM_top [p0]) R_fM_top) (L_fM_top_is _) (by kernel_rfl)
def A_fM_scaled : List PS := [.c (.q [.i .u16, .l LV]), .agg [.i .i64, .i .i64, .i .i64, .i .i64, .i .i64, .i .i64, .i .i64, .i .u16, .i .i64, .i .i64, .b, .b], .agg [.i .u16, .i .u16, .i .u16, .i .u16, .i .u16], .c (.i .u16)]
def R_fM_scaled : RS := .tup [.agg [.i .u16, .i .u16, .i .u16, .i .u16, .i .u16], .c (.b)]
noncomputable def L_fM_scaled : List Value → List Value := Classical.choose (veil fun vs => (evFM ⟨[], []⟩ Tryz.prog [S_scale_Pixel, S_scale_Both] 1000 35 (inL A_fM_scaled vs) R_fM_scaled).outL)
theorem L_fM_scaled_is (vs : List Value) : L_fM_scaled vs = (evFM ⟨[], []⟩ Tryz.prog [S_scale_Pixel, S_scale_Both] 1000 35 (inL A_fM_scaled vs) R_fM_scaled).outL := Classical.choose_spec (veil _) vs
noncomputable def S_fM_scaled : Sum := ⟨35, L_fM_scaled, A_fM_scaled, R_fM_scaled⟩
theorem env_fM_scaled : EnvOK Tryz.prog InvN ⟨[], []⟩ ∧ AllOK Tryz.prog InvN [S_scale_Pixel, S_scale_Both] := ⟨⟨allC_nil, allL_nil⟩, (allOK_cons ok_scale_Pixel (allOK_cons ok_scale_Both allOK_nil))⟩
theorem okG_fM_scaled (vs : List Value) : (evFM ⟨[], []⟩ Tryz.prog [S_scale_Pixel, S_scale_Both] 1000 35 (inL A_fM_scaled vs) R_fM_scaled).goodX R_fM_scaled = true := by kernel_rfl
theorem ok_fM_scaled : SumOK Tryz.prog InvN S_fM_scaled := sumOK_partL invN_stays env_fM_scaled.1 env_fM_scaled.2 1000 35 A_fM_scaled R_fM_scaled L_fM_scaled_is okG_fM_scaled (fun vs _ => ok_of_sure (t := evFM ⟨[], []⟩ Tryz.prog [S_scale_Pixel, S_scale_Both] 1000 35 (inL A_fM_scaled vs) R_fM_scaled) (by kernel_rfl))
noncomputable def F_fM_scaled (p0 : Value) (p1 p2 p3 p4 p5 p6 p7 p8 p9 p10 : Int) (p11 p12 : Bool) (p13 p14 p15 p16 p17 p18 : Int) : Int × Int × Int × Int × Int × Bool := (fun l => (num (l.getD 0 undef), num (l.getD 1 undef), num (l.getD 2 undef), num (l.getD 3 undef), num (l.getD 4 undef), tru (l.getD 5 undef))) (L_fM_scaled [p0, .int .i64 p1, .int .i64 p2, .int .i64 p3, .int .i64 p4, .int .i64 p5, .int .i64 p6, .int .i64 p7, .int .u16 p8, .int .i64 p9, .int .i64 p10, .bool p11, .bool p12, .int .u16 p13, .int .u16 p14, .int .u16 p15, .int .u16 p16, .int .u16 p17, .int .u16 p18])
theorem F_fM_scaled_eq (p0 : Value) (p1 p2 p3 p4 p5 p6 p7 p8 p9 p10 : Int) (p11 p12 : Bool) (p13 p14 p15 p16 p17 p18 : Int) : F_fM_scaled p0 p1 p2 p3 p4 p5 p6 p7 p8 p9 p10 p11 p12 p13 p14 p15 p16 p17 p18 =
 bif (p5 == 0) then
 (let x0 := F_scale_Pixel p13 p14 p15 p16 p17 p8 (num (CV p0 0))
 (x0.1, x0.2.1, x0.2.2.1, x0.2.2.2.1, x0.2.2.2.2.1, x0.2.2.2.2.2))
 else
 (let x1 := F_scale_Both p13 p14 p15 p16 p17 p18 p8 (num (CV p0 0))
 (x1.1, x1.2.1, x1.2.2.1, x1.2.2.2.1, x1.2.2.2.2.1, x1.2.2.2.2.2)) :=
 spellV (L := L_fM_scaled) (fun l => (num (l.getD 0 undef), num (l.getD 1 undef), num (l.getD 2 undef), num (l.getD 3 undef), num (l.getD 4 undef), tru (l.getD 5 undef))) (evFM ⟨[], []⟩ Tryz.prog [S_scale_Pixel, S_scale_Both] 1000 35 (inL A_fM_scaled [p0, .int .i64 p1, .int .i64 p2, .int .i64 p3, .int .i64 p4, .int .i64 p5, .int .i64 p6, .int .i64 p7, .int .u16 p8, .int .i64 p9, .int .i64 p10, .bool p11, .bool p12, .int .u16 p13, .int .u16 p14, .int .u16 p15, .int .u16 p16, .int .u16 p17, .int .u16 p18]) R_fM_scaled) (L_fM_scaled_is _) (by kernel_rfl)
def A_fM_paint : List PS := [.c (.q [.i .u16, .l LV]), .c (.l LV), .agg [.i .i64, .i .i64, .i .i64, .i .i64, .i .i64, .i .i64, .i .i64, .i .u16, .i .i64, .i .i64, .b, .b], .agg [.i .u16, .i .u16, .i .u16, .i .u16, .i .u16]]
def R_fM_paint : RS := .tup [.agg LV, .c (.b)]
noncomputable def L_fM_paint : List Value → List Value := Classical.choose (veil fun vs => (evFM ⟨[], []⟩ Tryz.prog [S_group_Step] 1000 36 (inL A_fM_paint vs) R_fM_paint).outL)
theorem L_fM_paint_is (vs : List Value) : L_fM_paint vs = (evFM ⟨[], []⟩ Tryz.prog [S_group_Step] 1000 36 (inL A_fM_paint vs) R_fM_paint).outL := Classical.choose_spec (veil _) vs
def pre_fM_paint : List Value → Bool := fun vs => lenOK (vs.getD 1 undef)
noncomputable def C_fM_paint : CSum := ⟨36, L_fM_paint, pre_fM_paint, A_fM_paint, R_fM_paint⟩
theorem env_fM_paint : EnvOK Tryz.prog InvN ⟨[], []⟩ ∧ AllOK Tryz.prog InvN [S_group_Step] := ⟨⟨allC_nil, allL_nil⟩, (allOK_cons ok_group_Step allOK_nil)⟩
theorem okG_fM_paint (vs : List Value) : (evFM ⟨[], []⟩ Tryz.prog [S_group_Step] 1000 36 (inL A_fM_paint vs) R_fM_paint).goodX R_fM_paint = true := by kernel_rfl
theorem okB_fM_paint (p0 p1 : Value) (p2 p3 p4 p5 p6 p7 p8 p9 p10 p11 : Int) (p12 p13 : Bool) (p14 p15 p16 p17 p18 : Int) : (evFM ⟨[], []⟩ Tryz.prog [S_group_Step] 1000 36 (inL A_fM_paint [p0, p1, .int .i64 p2, .int .i64 p3, .int .i64 p4, .int .i64 p5, .int .i64 p6, .int .i64 p7, .int .i64 p8, .int .u16 p9, .int .i64 p10, .int .i64 p11, .bool p12, .bool p13, .int .u16 p14, .int .u16 p15, .int .u16 p16, .int .u16 p17, .int .u16 p18]) R_fM_paint).ok =
 bif (INB p1 (IntKind.i64.wrap ((LN p1) - 1))) then
 (true)
 else
 (false) := (okR_eq _).trans (by kernel_rfl)
theorem okA_fM_paint (h : ∀ p0 p1 p2 p3 p4 p5 p6 p7 p8 p9 p10 p11 p12 p13 p14 p15 p16 p17 p18 , inKind (.q [.i .u16, .l LV]) p0 → inKind (.l LV) p1 → IntKind.i64.min ≤ p2 → p2 ≤ IntKind.i64.max → IntKind.i64.min ≤ p3 → p3 ≤ IntKind.i64.max → IntKind.i64.min ≤ p4 → p4 ≤ IntKind.i64.max → IntKind.i64.min ≤ p5 → p5 ≤ IntKind.i64.max → IntKind.i64.min ≤ p6 → p6 ≤ IntKind.i64.max → IntKind.i64.min ≤ p7 → p7 ≤ IntKind.i64.max → IntKind.i64.min ≤ p8 → p8 ≤ IntKind.i64.max → IntKind.u16.min ≤ p9 → p9 ≤ IntKind.u16.max → IntKind.i64.min ≤ p10 → p10 ≤ IntKind.i64.max → IntKind.i64.min ≤ p11 → p11 ≤ IntKind.i64.max → IntKind.u16.min ≤ p14 → p14 ≤ IntKind.u16.max → IntKind.u16.min ≤ p15 → p15 ≤ IntKind.u16.max → IntKind.u16.min ≤ p16 → p16 ≤ IntKind.u16.max → IntKind.u16.min ≤ p17 → p17 ≤ IntKind.u16.max → IntKind.u16.min ≤ p18 → p18 ≤ IntKind.u16.max → pre_fM_paint [p0, p1, .int .i64 p2, .int .i64 p3, .int .i64 p4, .int .i64 p5, .int .i64 p6, .int .i64 p7, .int .i64 p8, .int .u16 p9, .int .i64 p10, .int .i64 p11, .bool p12, .bool p13, .int .u16 p14, .int .u16 p15, .int .u16 p16, .int .u16 p17, .int .u16 p18] = true → (evFM ⟨[], []⟩ Tryz.prog [S_group_Step] 1000 36 (inL A_fM_paint [p0, p1, .int .i64 p2, .int .i64 p3, .int .i64 p4, .int .i64 p5, .int .i64 p6, .int .i64 p7, .int .i64 p8, .int .u16 p9, .int .i64 p10, .int .i64 p11, .bool p12, .bool p13, .int .u16 p14, .int .u16 p15, .int .u16 p16, .int .u16 p17, .int .u16 p18]) R_fM_paint).ok = true) : CSumOK Tryz.prog InvN C_fM_paint := csumOK_partV invN_stays env_fM_paint.1 env_fM_paint.2 1000 36 A_fM_paint R_fM_paint L_fM_paint_is pre_fM_paint okG_fM_paint (by
 refine kLc fun p0 p0k => ?_
 refine kLc fun p1 p1k => ?_
 refine kLi fun p2 p2lo p2hi => ?_
 refine kLi fun p3 p3lo p3hi => ?_
 refine kLi fun p4 p4lo p4hi => ?_
 refine kLi fun p5 p5lo p5hi => ?_
 refine kLi fun p6 p6lo p6hi => ?_
 refine kLi fun p7 p7lo p7hi => ?_
 refine kLi fun p8 p8lo p8hi => ?_
 refine kLi fun p9 p9lo p9hi => ?_
 refine kLi fun p10 p10lo p10hi => ?_
 refine kLi fun p11 p11lo p11hi => ?_
 refine kLb fun p12 => ?_
 refine kLb fun p13 => ?_
 refine kLi fun p14 p14lo p14hi => ?_
 refine kLi fun p15 p15lo p15hi => ?_
 refine kLi fun p16 p16lo p16hi => ?_
 refine kLi fun p17 p17lo p17hi => ?_
 refine kLi fun p18 p18lo p18hi => ?_
 refine kLn ?_
 intro hp
 exact h p0 p1 p2 p3 p4 p5 p6 p7 p8 p9 p10 p11 p12 p13 p14 p15 p16 p17 p18 p0k p1k p2lo p2hi p3lo p3hi p4lo p4hi p5lo p5hi p6lo p6hi p7lo p7hi p8lo p8hi p9lo p9hi p10lo p10hi p11lo p11hi p14lo p14hi p15lo p15hi p16lo p16hi p17lo p17hi p18lo p18hi hp)
theorem ok_fM_paint : CSumOK Tryz.prog InvN C_fM_paint := okA_fM_paint fun p0 p1 p2 p3 p4 p5 p6 p7 p8 p9 p10 p11 p12 p13 p14 p15 p16 p17 p18 _ _ _ _ _ _ _ _ _ _ _ _ _ _ _ _ _ _ _ _ _ _ _ _ _ _ _ _ _ _ _ _ hp => by
 have hp : lenOK p1 = true := hp
 rw [okB_fM_paint, lenOK.last hp]
 rfl
noncomputable def F_fM_paint (p0 p1 : Value) (p2 p3 p4 p5 p6 p7 p8 p9 p10 p11 : Int) (p12 p13 : Bool) (p14 p15 p16 p17 p18 : Int) : Int × Int × Int × Int × Int × Int × Int × Int × Int × Int × Bool × Bool × Int × Int × Int × Int × Int × Int × Int × Int × Int × Int × Int × Bool := (fun l => (num (l.getD 0 undef), num (l.getD 1 undef), num (l.getD 2 undef), num (l.getD 3 undef), num (l.getD 4 undef), num (l.getD 5 undef), num (l.getD 6 undef), num (l.getD 7 undef), num (l.getD 8 undef), num (l.getD 9 undef), tru (l.getD 10 undef), tru (l.getD 11 undef), num (l.getD 12 undef), num (l.getD 13 undef), num (l.getD 14 undef), num (l.getD 15 undef), num (l.getD 16 undef), num (l.getD 17 undef), num (l.getD 18 undef), num (l.getD 19 undef), num (l.getD 20 undef), num (l.getD 21 undef), num (l.getD 22 undef), tru (l.getD 23 undef))) (L_fM_paint [p0, p1, .int .i64 p2, .int .i64 p3, .int .i64 p4, .int .i64 p5, .int .i64 p6, .int .i64 p7, .int .i64 p8, .int .u16 p9, .int .i64 p10, .int .i64 p11, .bool p12, .bool p13, .int .u16 p14, .int .u16 p15, .int .u16 p16, .int .u16 p17, .int .u16 p18])
theorem F_fM_paint_eq (p0 p1 : Value) (p2 p3 p4 p5 p6 p7 p8 p9 p10 p11 : Int) (p12 p13 : Bool) (p14 p15 p16 p17 p18 : Int) : F_fM_paint p0 p1 p2 p3 p4 p5 p6 p7 p8 p9 p10 p11 p12 p13 p14 p15 p16 p17 p18 =
 bif (INB p1 (IntKind.i64.wrap ((LN p1) - 1))) then
 (let x0 := F_group_Step (tru (CV (IX p1 (IntKind.i64.wrap ((LN p1) - 1))) 11)) p10 p11 (num (CV p0 0)) p14 p15 p16 p17 p18 (num (CV (IX p1 (IntKind.i64.wrap ((LN p1) - 1))) 12)) (num (CV (IX p1 (IntKind.i64.wrap ((LN p1) - 1))) 13)) (num (CV (IX p1 (IntKind.i64.wrap ((LN p1) - 1))) 14)) (num (CV (IX p1 (IntKind.i64.wrap ((LN p1) - 1))) 15)) (num (CV (IX p1 (IntKind.i64.wrap ((LN p1) - 1))) 16)) (num (CV (IX p1 (IntKind.i64.wrap ((LN p1) - 1))) 17)) (num (CV (IX p1 (IntKind.i64.wrap ((LN p1) - 1))) 18)) (num (CV (IX p1 (IntKind.i64.wrap ((LN p1) - 1))) 19)) (num (CV (IX p1 (IntKind.i64.wrap ((LN p1) - 1))) 20)) (num (CV (IX p1 (IntKind.i64.wrap ((LN p1) - 1))) 21)) (num (CV (IX p1 (IntKind.i64.wrap ((LN p1) - 1))) 22))
 ((num (CV (IX p1 (IntKind.i64.wrap ((LN p1) - 1))) 0)), (num (CV (IX p1 (IntKind.i64.wrap ((LN p1) - 1))) 1)), (num (CV (IX p1 (IntKind.i64.wrap ((LN p1) - 1))) 2)), (num (CV (IX p1 (IntKind.i64.wrap ((LN p1) - 1))) 3)), (num (CV (IX p1 (IntKind.i64.wrap ((LN p1) - 1))) 4)), (num (CV (IX p1 (IntKind.i64.wrap ((LN p1) - 1))) 5)), (num (CV (IX p1 (IntKind.i64.wrap ((LN p1) - 1))) 6)), (num (CV (IX p1 (IntKind.i64.wrap ((LN p1) - 1))) 7)), (num (CV (IX p1 (IntKind.i64.wrap ((LN p1) - 1))) 8)), (num (CV (IX p1 (IntKind.i64.wrap ((LN p1) - 1))) 9)), (tru (CV (IX p1 (IntKind.i64.wrap ((LN p1) - 1))) 10)), (tru (CV (IX p1 (IntKind.i64.wrap ((LN p1) - 1))) 11)), x0.1, x0.2.1, x0.2.2.1, x0.2.2.2.1, x0.2.2.2.2.1, x0.2.2.2.2.2.1, (num (CV (IX p1 (IntKind.i64.wrap ((LN p1) - 1))) 18)), (num (CV (IX p1 (IntKind.i64.wrap ((LN p1) - 1))) 19)), (num (CV (IX p1 (IntKind.i64.wrap ((LN p1) - 1))) 20)), (num (CV (IX p1 (IntKind.i64.wrap ((LN p1) - 1))) 21)), (num (CV (IX p1 (IntKind.i64.wrap ((LN p1) - 1))) 22)), x0.2.2.2.2.2.2))
 else
 (((num undef), (num undef), (num undef), (num undef), (num undef), (num undef), (num undef), (num undef), (num undef), (num undef), (tru undef), (tru undef), (num undef), (num undef), (num undef), (num undef), (num undef), (num undef), (num undef), (num undef), (num undef), (num undef), (num undef), (tru undef))) :=
 spellV (L := L_fM_paint) (fun l => (num (l.getD 0 undef), num (l.getD 1 undef), num (l.getD 2 undef), num (l.getD 3 undef), num (l.getD 4 undef), num (l.getD 5 undef), num (l.getD 6 undef), num (l.getD 7 undef), num (l.getD 8 undef), num (l.getD 9 undef), tru (l.getD 10 undef), tru (l.getD 11 undef), num (l.getD 12 undef), num (l.getD 13 undef), num (l.getD 14 undef), num (l.getD 15 undef), num (l.getD 16 undef), num (l.getD 17 undef), num (l.getD 18 undef), num (l.getD 19 undef), num (l.getD 20 undef), num (l.getD 21 undef), num (l.getD 22 undef), tru (l.getD 23 undef))) (evFM ⟨[], []⟩ Tryz.prog [S_group_Step] 1000 36 (inL A_fM_paint [p0, p1, .int .i64 p2, .int .i64 p3, .int .i64 p4, .int .i64 p5, .int .i64 p6, .int .i64 p7, .int .i64 p8, .int .u16 p9, .int .i64 p10, .int .i64 p11, .bool p12, .bool p13, .int .u16 p14, .int .u16 p15, .int .u16 p16, .int .u16 p17, .int .u16 p18]) R_fM_paint) (L_fM_paint_is _) (by kernel_rfl)
def A_fM_Depth : List PS := [.c (.q [.i .u16, .l LV])]
def R_fM_Depth : RS := .one (.c (.i .i64))
noncomputable def L_fM_Depth : List Value → List Value := Classical.choose (veil fun vs => (evFM ⟨[], []⟩ Tryz.prog [] 1000 21 (inL A_fM_Depth vs) R_fM_Depth).outL)
theorem L_fM_Depth_is (vs : List Value) : L_fM_Depth vs = (evFM ⟨[], []⟩ Tryz.prog [] 1000 21 (inL A_fM_Depth vs) R_fM_Depth).outL := Classical.choose_spec (veil _) vs
def pre_fM_Depth : List Value → Bool := fun _ => true
noncomputable def C_fM_Depth : CSum := ⟨21, L_fM_Depth, pre_fM_Depth, A_fM_Depth, R_fM_Depth⟩
theorem env_fM_Depth : EnvOK Tryz.prog InvN ⟨[], []⟩ ∧ AllOK Tryz.prog InvN [] := ⟨⟨allC_nil, allL_nil⟩, allOK_nil⟩
theorem okG_fM_Depth (vs : List Value) : (evFM ⟨[], []⟩ Tryz.prog [] 1000 21 (inL A_fM_Depth vs) R_fM_Depth).goodX R_fM_Depth = true := by kernel_rfl
theorem ok_fM_Depth : CSumOK Tryz.prog InvN C_fM_Depth := csumOK_partV invN_stays env_fM_Depth.1 env_fM_Depth.2 1000 21 A_fM_Depth R_fM_Depth L_fM_Depth_is pre_fM_Depth okG_fM_Depth (fun vs _ _ => ok_of_sure (t := evFM ⟨[], []⟩ Tryz.prog [] 1000 21 (inL A_fM_Depth vs) R_fM_Depth) (by kernel_rfl))
noncomputable def F_fM_Depth (p0 : Value) : Int := (fun l => num (l.getD 0 undef)) (L_fM_Depth [p0])
theorem F_fM_Depth_eq (p0 : Value) : F_fM_Depth p0 =
 (IntKind.i64.wrap ((LN (CV p0 1)) - 1)) :=
 spellV (L := L_fM_Depth) (fun l => num (l.getD 0 undef)) (evFM ⟨[], []⟩ Tryz.prog [] 1000 21 (inL A_fM_Depth [p0]) R_fM_Depth) (L_fM_Depth_is _) (by kernel_rfl)
def head_fM_Push : Shp := ⟨[.p (.c (.p 0 0)), .p (.agg [.h (.i .i64), .h (.i .i64), .h (.i .i64), .h (.i .i64), .h (.i .i64), .h (.i .i64), .h (.i .i64), .h (.i .u16), .h (.i .i64), .h (.i .i64), .h (.b), .h (.b)])], [(0, ⟨[.h (.i .u16), .ar 1 LV 61], 64, true, none⟩), (1, ⟨[], 61, true, some LV⟩)]⟩
def outs_fM_Push : List (Xt × Shp × Nat) := [(.ret, ⟨[.p (.c (.h (.i .i64))), .p (.c (.p 0 0))], [(0, ⟨[.h (.i .u16), .ar 1 LV 61], 64, true, none⟩), (1, ⟨[], 61, true, some LV⟩)]⟩, 2)]
def LC0_fM_Push : LoopC := ⟨16, 99999, fun _ => [], fun _ => true, 2, head_fM_Push, outs_fM_Push⟩
noncomputable def LF_fM_Push : List Value → List Value := Classical.choose (veil fun vs => (evB ⟨[C_fM_top, C_fM_Depth], []⟩ Tryz.prog [S_group_Begin] 1000 LC0_fM_Push vs).outL)
theorem LF_fM_Push_is (vs : List Value) : LF_fM_Push vs = (evB ⟨[C_fM_top, C_fM_Depth], []⟩ Tryz.prog [S_group_Begin] 1000 LC0_fM_Push vs).outL := Classical.choose_spec (veil _) vs
def pre_fM_Push : List Value → Bool := fun vs => lenOK (vs.getD 13 undef)
noncomputable def LC_fM_Push : LoopC := ⟨16, 99999, LF_fM_Push, pre_fM_Push, 2, head_fM_Push, outs_fM_Push⟩
noncomputable def OUT_fM_Push (p0 p1 p2 p3 p4 p5 p6 p7 p8 p9 : Int) (p10 p11 : Bool) (p12 : Int) (p13 : Value) : List Value :=
 bif (p0 != 2) then
 ([.int .i64 0, .int .i64 20, .int .u16 p12, p13])
 else
 (bif (pre_fM_Depth [(PK [.int .u16 p12, p13])]) then
 (let x0 := F_fM_Depth (PK [.int .u16 p12, p13])
 bif (decide (x0 ≥ 64)) then
 ([.int .i64 0, .int .i64 17, .int .u16 p12, p13])
 else
 (bif (pre_fM_top [(PK [.int .u16 p12, p13])]) then
 (let x1 := F_fM_top (PK [.int .u16 p12, p13])
 let x2 := F_group_Begin p10 x1.2.2.2.2.2.2.2.2.2.2.2.1 x1.2.2.2.2.2.2.2.2.2.2.2.2.1 x1.2.2.2.2.2.2.2.2.2.2.2.2.2.1 x1.2.2.2.2.2.2.2.2.2.2.2.2.2.2.1 x1.2.2.2.2.2.2.2.2.2.2.2.2.2.2.2.1 x1.2.2.2.2.2.2.2.2.2.2.2.2.2.2.2.2.1 x1.2.2.2.2.2.2.2.2.2.2.2.2.2.2.2.2.2.1 x1.2.2.2.2.2.2.2.2.2.2.2.2.2.2.2.2.2.2.1 x1.2.2.2.2.2.2.2.2.2.2.2.2.2.2.2.2.2.2.2.1 x1.2.2.2.2.2.2.2.2.2.2.2.2.2.2.2.2.2.2.2.2.1 x1.2.2.2.2.2.2.2.2.2.2.2.2.2.2.2.2.2.2.2.2.2.1 x1.2.2.2.2.2.2.2.2.2.2.2.2.2.2.2.2.2.2.2.2.2.2
 bif (RO 112 (CT p13 (LSV 23 1 [.int .i64 p0, .int .i64 p1, .int .i64 p2, .int .i64 p3, .int .i64 p4, .int .i64 p5, .int .i64 p6, .int .u16 p7, .int .i64 p8, .int .i64 p9, .bool p10, .bool p11, .int .u16 x2.1, .int .u16 x2.2.1, .int .u16 x2.2.2.1, .int .u16 x2.2.2.2.1, .int .u16 x2.2.2.2.2.1, .int .u16 x2.2.2.2.2.2.1, .int .u16 x2.2.2.2.2.2.2.1, .int .u16 x2.2.2.2.2.2.2.2.1, .int .u16 x2.2.2.2.2.2.2.2.2.1, .int .u16 x2.2.2.2.2.2.2.2.2.2.1, .int .u16 x2.2.2.2.2.2.2.2.2.2.2]))) then
 ([.int .i64 0, .int .i64 0, .int .u16 p12, (CT p13 (LSV 23 1 [.int .i64 p0, .int .i64 p1, .int .i64 p2, .int .i64 p3, .int .i64 p4, .int .i64 p5, .int .i64 p6, .int .u16 p7, .int .i64 p8, .int .i64 p9, .bool p10, .bool p11, .int .u16 x2.1, .int .u16 x2.2.1, .int .u16 x2.2.2.1, .int .u16 x2.2.2.2.1, .int .u16 x2.2.2.2.2.1, .int .u16 x2.2.2.2.2.2.1, .int .u16 x2.2.2.2.2.2.2.1, .int .u16 x2.2.2.2.2.2.2.2.1, .int .u16 x2.2.2.2.2.2.2.2.2.1, .int .u16 x2.2.2.2.2.2.2.2.2.2.1, .int .u16 x2.2.2.2.2.2.2.2.2.2.2]))])
 else
 ([]))
 else
 ([])))
 else
 ([]))
theorem LF_fM_Push_eq (p0 p1 p2 p3 p4 p5 p6 p7 p8 p9 : Int) (p10 p11 : Bool) (p12 : Int) (p13 : Value) : LF_fM_Push [.int .i64 p0, .int .i64 p1, .int .i64 p2, .int .i64 p3, .int .i64 p4, .int .i64 p5, .int .i64 p6, .int .u16 p7, .int .i64 p8, .int .i64 p9, .bool p10, .bool p11, .int .u16 p12, p13] = OUT_fM_Push p0 p1 p2 p3 p4 p5 p6 p7 p8 p9 p10 p11 p12 p13 := (LF_fM_Push_is _).trans ((fold_eq (fun l => l) _).trans (by kernel_rfl))
theorem okB_fM_Push (p0 p1 p2 p3 p4 p5 p6 p7 p8 p9 : Int) (p10 p11 : Bool) (p12 : Int) (p13 : Value) : (evB ⟨[C_fM_top, C_fM_Depth], []⟩ Tryz.prog [S_group_Begin] 1000 LC0_fM_Push [.int .i64 p0, .int .i64 p1, .int .i64 p2, .int .i64 p3, .int .i64 p4, .int .i64 p5, .int .i64 p6, .int .u16 p7, .int .i64 p8, .int .i64 p9, .bool p10, .bool p11, .int .u16 p12, p13]).ok =
 bif (p0 != 2) then
 (true)
 else
 (bif (pre_fM_Depth [(PK [.int .u16 p12, p13])]) then
 (let x0 := F_fM_Depth (PK [.int .u16 p12, p13])
 bif (decide (x0 ≥ 64)) then
 (true)
 else
 (bif (pre_fM_top [(PK [.int .u16 p12, p13])]) then
 (let x1 := F_fM_top (PK [.int .u16 p12, p13])
 let x2 := F_group_Begin p10 x1.2.2.2.2.2.2.2.2.2.2.2.1 x1.2.2.2.2.2.2.2.2.2.2.2.2.1 x1.2.2.2.2.2.2.2.2.2.2.2.2.2.1 x1.2.2.2.2.2.2.2.2.2.2.2.2.2.2.1 x1.2.2.2.2.2.2.2.2.2.2.2.2.2.2.2.1 x1.2.2.2.2.2.2.2.2.2.2.2.2.2.2.2.2.1 x1.2.2.2.2.2.2.2.2.2.2.2.2.2.2.2.2.2.1 x1.2.2.2.2.2.2.2.2.2.2.2.2.2.2.2.2.2.2.1 x1.2.2.2.2.2.2.2.2.2.2.2.2.2.2.2.2.2.2.2.1 x1.2.2.2.2.2.2.2.2.2.2.2.2.2.2.2.2.2.2.2.2.1 x1.2.2.2.2.2.2.2.2.2.2.2.2.2.2.2.2.2.2.2.2.2.1 x1.2.2.2.2.2.2.2.2.2.2.2.2.2.2.2.2.2.2.2.2.2.2
 bif (RO 112 (CT p13 (LSV 23 1 [.int .i64 p0, .int .i64 p1, .int .i64 p2, .int .i64 p3, .int .i64 p4, .int .i64 p5, .int .i64 p6, .int .u16 p7, .int .i64 p8, .int .i64 p9, .bool p10, .bool p11, .int .u16 x2.1, .int .u16 x2.2.1, .int .u16 x2.2.2.1, .int .u16 x2.2.2.2.1, .int .u16 x2.2.2.2.2.1, .int .u16 x2.2.2.2.2.2.1, .int .u16 x2.2.2.2.2.2.2.1, .int .u16 x2.2.2.2.2.2.2.2.1, .int .u16 x2.2.2.2.2.2.2.2.2.1, .int .u16 x2.2.2.2.2.2.2.2.2.2.1, .int .u16 x2.2.2.2.2.2.2.2.2.2.2]))) then
 (true)
 else
 (false))
 else
 (false)))
 else
 (false)) := (okR_eq _).trans (by kernel_rfl)
theorem env_fM_Push : EnvOK Tryz.prog InvN ⟨[C_fM_top, C_fM_Depth], []⟩ ∧ AllOK Tryz.prog InvN [S_group_Begin] := ⟨⟨(allC_cons ok_fM_top (allC_cons ok_fM_Depth allC_nil)), allL_nil⟩, (allOK_cons ok_group_Begin allOK_nil)⟩
theorem okA_fM_Push (h : ∀ p0 p1 p2 p3 p4 p5 p6 p7 p8 p9 p10 p11 p12 p13, IntKind.i64.min ≤ p0 → p0 ≤ IntKind.i64.max → IntKind.i64.min ≤ p1 → p1 ≤ IntKind.i64.max → IntKind.i64.min ≤ p2 → p2 ≤ IntKind.i64.max → IntKind.i64.min ≤ p3 → p3 ≤ IntKind.i64.max → IntKind.i64.min ≤ p4 → p4 ≤ IntKind.i64.max → IntKind.i64.min ≤ p5 → p5 ≤ IntKind.i64.max → IntKind.i64.min ≤ p6 → p6 ≤ IntKind.i64.max → IntKind.u16.min ≤ p7 → p7 ≤ IntKind.u16.max → IntKind.i64.min ≤ p8 → p8 ≤ IntKind.i64.max → IntKind.i64.min ≤ p9 → p9 ≤ IntKind.i64.max → IntKind.u16.min ≤ p12 → p12 ≤ IntKind.u16.max → inKind (.l LV) p13 → pre_fM_Push [.int .i64 p0, .int .i64 p1, .int .i64 p2, .int .i64 p3, .int .i64 p4, .int .i64 p5, .int .i64 p6, .int .u16 p7, .int .i64 p8, .int .i64 p9, .bool p10, .bool p11, .int .u16 p12, p13] = true → (evB ⟨[C_fM_top, C_fM_Depth], []⟩ Tryz.prog [S_group_Begin] 1000 LC0_fM_Push [.int .i64 p0, .int .i64 p1, .int .i64 p2, .int .i64 p3, .int .i64 p4, .int .i64 p5, .int .i64 p6, .int .u16 p7, .int .i64 p8, .int .i64 p9, .bool p10, .bool p11, .int .u16 p12, p13]).ok = true) : LoopTrue Tryz.prog InvN LC_fM_Push := body_true env_fM_Push.1 env_fM_Push.2 1000 LC_fM_Push rfl (fun xs => LF_fM_Push_is xs) (by
 refine kLi fun p0 p0lo p0hi => ?_
 refine kLi fun p1 p1lo p1hi => ?_
 refine kLi fun p2 p2lo p2hi => ?_
 refine kLi fun p3 p3lo p3hi => ?_
 refine kLi fun p4 p4lo p4hi => ?_
 refine kLi fun p5 p5lo p5hi => ?_
 refine kLi fun p6 p6lo p6hi => ?_
 refine kLi fun p7 p7lo p7hi => ?_
 refine kLi fun p8 p8lo p8hi => ?_
 refine kLi fun p9 p9lo p9hi => ?_
 refine kLb fun p10 => ?_
 refine kLb fun p11 => ?_
 refine kLi fun p12 p12lo p12hi => ?_
 refine kLc fun p13 p13k => ?_
 refine kLn ?_
 intro hp
 exact h p0 p1 p2 p3 p4 p5 p6 p7 p8 p9 p10 p11 p12 p13 p0lo p0hi p1lo p1hi p2lo p2hi p3lo p3hi p4lo p4hi p5lo p5hi p6lo p6hi p7lo p7hi p8lo p8hi p9lo p9hi p12lo p12hi p13k hp)
theorem ok_fM_Push : LoopTrue Tryz.prog InvN LC_fM_Push := okA_fM_Push fun p0 p1 p2 p3 p4 p5 p6 p7 p8 p9 p10 p11 p12 p13 _ _ _ _ _ _ _ _ _ _ _ _ _ _ _ _ _ _ _ _ _ _ _ hp => by
 have hp : lenOK p13 = true := hp
 have h1 : pre_fM_top [PK [.int .u16 p12, p13]] = true := hp
 rw [okB_fM_Push]
 refine bif_ok (fun _ => rfl) fun _ => bif_ok (fun _ => ?_) (fun h => bool_no (c := true) rfl h)
 dsimp only
 refine bif_ok (fun _ => rfl) fun _ => ?_
 rw [h1, lenOK.push hp]
 rfl
theorem push_len (p0 p1 p2 p3 p4 p5 p6 p7 p8 p9 : Int) (p10 p11 : Bool) (p12 : Int) (p13 : Value) (hp : lenOK p13 = true) : ∃ (e : Int) (L : Value), LF_fM_Push [.int .i64 p0, .int .i64 p1, .int .i64 p2, .int .i64 p3, .int .i64 p4, .int .i64 p5, .int .i64 p6, .int .u16 p7, .int .i64 p8, .int .i64 p9, .bool p10, .bool p11, .int .u16 p12, p13] = [.int .i64 0, .int .i64 e, .int .u16 p12, L] ∧ (LN L = LN p13 ∨ LN L = LN p13 + 1) := by
 have h1 : pre_fM_top [PK [.int .u16 p12, p13]] = true := hp
 rw [LF_fM_Push_eq]
 unfold OUT_fM_Push
 refine bifP (p := fun o => ∃ (e : Int) (L : Value), o = [.int .i64 0, .int .i64 e, .int .u16 p12, L] ∧ (LN L = LN p13 ∨ LN L = LN p13 + 1)) (fun _ => ⟨20, p13, rfl, .inl rfl⟩) fun _ => ?_
 refine bifP (p := fun o => ∃ (e : Int) (L : Value), o = [.int .i64 0, .int .i64 e, .int .u16 p12, L] ∧ (LN L = LN p13 ∨ LN L = LN p13 + 1)) (fun _ => ?_) (fun h => bool_no (c := true) rfl h)
 dsimp only
 refine bifP (p := fun o => ∃ (e : Int) (L : Value), o = [.int .i64 0, .int .i64 e, .int .u16 p12, L] ∧ (LN L = LN p13 ∨ LN L = LN p13 + 1)) (fun _ => ⟨17, p13, rfl, .inl rfl⟩) fun _ => ?_
 rw [h1, lenOK.push hp]
 exact ⟨0, _, rfl, .inr (by rw [LN_CT, LN_LSV]; rfl)⟩
def head_fM_Draw : Shp := ⟨[.p (.c (.p 0 0)), .p (.agg [.h (.i .i64), .h (.i .i64), .h (.i .i64), .h (.i .i64), .h (.i .i64), .h (.i .i64), .h (.i .i64), .h (.i .u16), .h (.i .i64), .h (.i .i64), .h (.b), .h (.b)]), .p (.agg [.h (.i .u16), .h (.i .u16), .h (.i .u16), .h (.i .u16), .h (.i .u16)]), .p (.c (.h (.i .u16)))], [(0, ⟨[.h (.i .u16), .ar 1 LV 61], 64, true, none⟩), (1, ⟨[], 61, true, some LV⟩)]⟩
def outs_fM_Draw : List (Xt × Shp × Nat) := [(.ret, ⟨[.tup [.agg [.h (.i .u16), .h (.i .u16), .h (.i .u16), .h (.i .u16), .h (.i .u16)], .c (.h (.i .i64))], .p (.c (.p 0 0))], [(0, ⟨[.h (.i .u16), .ar 1 LV 61], 64, true, none⟩), (1, ⟨[], 61, true, some LV⟩)]⟩, 2)]
def LC0_fM_Draw : LoopC := ⟨15, 99999, fun _ => [], fun _ => true, 2, head_fM_Draw, outs_fM_Draw⟩
noncomputable def LF_fM_Draw : List Value → List Value := Classical.choose (veil fun vs => (evB ⟨[C_fM_paint], []⟩ Tryz.prog [S_sample_Valid, S_fM_scaled] 1000 LC0_fM_Draw vs).outL)
theorem LF_fM_Draw_is (vs : List Value) : LF_fM_Draw vs = (evB ⟨[C_fM_paint], []⟩ Tryz.prog [S_sample_Valid, S_fM_scaled] 1000 LC0_fM_Draw vs).outL := Classical.choose_spec (veil _) vs
def pre_fM_Draw : List Value → Bool := fun vs => lenOK (vs.getD 19 undef)
noncomputable def LC_fM_Draw : LoopC := ⟨15, 99999, LF_fM_Draw, pre_fM_Draw, 2, head_fM_Draw, outs_fM_Draw⟩
noncomputable def OUT_fM_Draw (p0 p1 p2 p3 p4 p5 p6 p7 p8 p9 : Int) (p10 p11 : Bool) (p12 p13 p14 p15 p16 p17 p18 : Int) (p19 : Value) : List Value :=
 bif (p0 != 1) then
 ([.int .i64 0, .int .u16 0, .int .u16 0, .int .u16 0, .int .u16 0, .int .u16 0, .int .i64 20, .int .u16 p18, p19])
 else
 (let x0 := F_sample_Valid p12 p13 p14 p15 p16 p18
 bif (!x0) then
 ([.int .i64 0, .int .u16 0, .int .u16 0, .int .u16 0, .int .u16 0, .int .u16 0, .int .i64 20, .int .u16 p18, p19])
 else
 (let x1 := F_fM_scaled (PK [.int .u16 p18, p19]) p0 p1 p2 p3 p4 p5 p6 p7 p8 p9 p10 p11 p12 p13 p14 p15 p16 p17
 bif (!x1.2.2.2.2.2) then
 ([.int .i64 0, .int .u16 0, .int .u16 0, .int .u16 0, .int .u16 0, .int .u16 0, .int .i64 20, .int .u16 p18, p19])
 else
 (bif (pre_fM_paint [(PK [.int .u16 p18, p19]), p19, .int .i64 p0, .int .i64 p1, .int .i64 p2, .int .i64 p3, .int .i64 p4, .int .i64 p5, .int .i64 p6, .int .u16 p7, .int .i64 p8, .int .i64 p9, .bool p10, .bool p11, .int .u16 x1.1, .int .u16 x1.2.1, .int .u16 x1.2.2.1, .int .u16 x1.2.2.2.1, .int .u16 x1.2.2.2.2.1]) then
 (let x2 := F_fM_paint (PK [.int .u16 p18, p19]) p19 p0 p1 p2 p3 p4 p5 p6 p7 p8 p9 p10 p11 x1.1 x1.2.1 x1.2.2.1 x1.2.2.2.1 x1.2.2.2.2.1
 bif (!x2.2.2.2.2.2.2.2.2.2.2.2.2.2.2.2.2.2.2.2.2.2.2.2) then
 ([.int .i64 0, .int .u16 0, .int .u16 0, .int .u16 0, .int .u16 0, .int .u16 0, .int .i64 16, .int .u16 p18, p19])
 else
 (bif (INB p19 (IntKind.i64.wrap ((LN p19) - 1))) then
 ([.int .i64 0, .int .u16 x1.1, .int .u16 x1.2.1, .int .u16 x1.2.2.1, .int .u16 x1.2.2.2.1, .int .u16 x1.2.2.2.2.1, .int .i64 0, .int .u16 p18, (ST 0 p19 (IntKind.i64.wrap ((LN p19) - 1)) [.int .i64 x2.1, .int .i64 x2.2.1, .int .i64 x2.2.2.1, .int .i64 x2.2.2.2.1, .int .i64 x2.2.2.2.2.1, .int .i64 x2.2.2.2.2.2.1, .int .i64 x2.2.2.2.2.2.2.1, .int .u16 x2.2.2.2.2.2.2.2.1, .int .i64 x2.2.2.2.2.2.2.2.2.1, .int .i64 x2.2.2.2.2.2.2.2.2.2.1, .bool x2.2.2.2.2.2.2.2.2.2.2.1, .bool x2.2.2.2.2.2.2.2.2.2.2.2.1, .int .u16 x2.2.2.2.2.2.2.2.2.2.2.2.2.1, .int .u16 x2.2.2.2.2.2.2.2.2.2.2.2.2.2.1, .int .u16 x2.2.2.2.2.2.2.2.2.2.2.2.2.2.2.1, .int .u16 x2.2.2.2.2.2.2.2.2.2.2.2.2.2.2.2.1, .int .u16 x2.2.2.2.2.2.2.2.2.2.2.2.2.2.2.2.2.1, .int .u16 x2.2.2.2.2.2.2.2.2.2.2.2.2.2.2.2.2.2.1, .int .u16 x2.2.2.2.2.2.2.2.2.2.2.2.2.2.2.2.2.2.2.1, .int .u16 x2.2.2.2.2.2.2.2.2.2.2.2.2.2.2.2.2.2.2.2.1, .int .u16 x2.2.2.2.2.2.2.2.2.2.2.2.2.2.2.2.2.2.2.2.2.1, .int .u16 x2.2.2.2.2.2.2.2.2.2.2.2.2.2.2.2.2.2.2.2.2.2.1, .int .u16 x2.2.2.2.2.2.2.2.2.2.2.2.2.2.2.2.2.2.2.2.2.2.2.1])])
 else
 ([])))
 else
 ([]))))
theorem LF_fM_Draw_eq (p0 p1 p2 p3 p4 p5 p6 p7 p8 p9 : Int) (p10 p11 : Bool) (p12 p13 p14 p15 p16 p17 p18 : Int) (p19 : Value) : LF_fM_Draw [.int .i64 p0, .int .i64 p1, .int .i64 p2, .int .i64 p3, .int .i64 p4, .int .i64 p5, .int .i64 p6, .int .u16 p7, .int .i64 p8, .int .i64 p9, .bool p10, .bool p11, .int .u16 p12, .int .u16 p13, .int .u16 p14, .int .u16 p15, .int .u16 p16, .int .u16 p17, .int .u16 p18, p19] = OUT_fM_Draw p0 p1 p2 p3 p4 p5 p6 p7 p8 p9 p10 p11 p12 p13 p14 p15 p16 p17 p18 p19 := (LF_fM_Draw_is _).trans ((fold_eq (fun l => l) _).trans (by kernel_rfl))
theorem okB_fM_Draw (p0 p1 p2 p3 p4 p5 p6 p7 p8 p9 : Int) (p10 p11 : Bool) (p12 p13 p14 p15 p16 p17 p18 : Int) (p19 : Value) : (evB ⟨[C_fM_paint], []⟩ Tryz.prog [S_sample_Valid, S_fM_scaled] 1000 LC0_fM_Draw [.int .i64 p0, .int .i64 p1, .int .i64 p2, .int .i64 p3, .int .i64 p4, .int .i64 p5, .int .i64 p6, .int .u16 p7, .int .i64 p8, .int .i64 p9, .bool p10, .bool p11, .int .u16 p12, .int .u16 p13, .int .u16 p14, .int .u16 p15, .int .u16 p16, .int .u16 p17, .int .u16 p18, p19]).ok =
 bif (p0 != 1) then
 (true)
 else
 (let x0 := F_sample_Valid p12 p13 p14 p15 p16 p18
 bif (!x0) then
 (true)
 else
 (let x1 := F_fM_scaled (PK [.int .u16 p18, p19]) p0 p1 p2 p3 p4 p5 p6 p7 p8 p9 p10 p11 p12 p13 p14 p15 p16 p17
 bif (!x1.2.2.2.2.2) then
 (true)
 else
 (bif (pre_fM_paint [(PK [.int .u16 p18, p19]), p19, .int .i64 p0, .int .i64 p1, .int .i64 p2, .int .i64 p3, .int .i64 p4, .int .i64 p5, .int .i64 p6, .int .u16 p7, .int .i64 p8, .int .i64 p9, .bool p10, .bool p11, .int .u16 x1.1, .int .u16 x1.2.1, .int .u16 x1.2.2.1, .int .u16 x1.2.2.2.1, .int .u16 x1.2.2.2.2.1]) then
 (let x2 := F_fM_paint (PK [.int .u16 p18, p19]) p19 p0 p1 p2 p3 p4 p5 p6 p7 p8 p9 p10 p11 x1.1 x1.2.1 x1.2.2.1 x1.2.2.2.1 x1.2.2.2.2.1
 bif (!x2.2.2.2.2.2.2.2.2.2.2.2.2.2.2.2.2.2.2.2.2.2.2.2) then
 (true)
 else
 (bif (INB p19 (IntKind.i64.wrap ((LN p19) - 1))) then
 (true)
 else
 (false)))
 else
 (false)))) := (okR_eq _).trans (by kernel_rfl)
theorem env_fM_Draw : EnvOK Tryz.prog InvN ⟨[C_fM_paint], []⟩ ∧ AllOK Tryz.prog InvN [S_sample_Valid, S_fM_scaled] := ⟨⟨(allC_cons ok_fM_paint allC_nil), allL_nil⟩, (allOK_cons ok_sample_Valid (allOK_cons ok_fM_scaled allOK_nil))⟩
theorem okA_fM_Draw (h : ∀ p0 p1 p2 p3 p4 p5 p6 p7 p8 p9 p10 p11 p12 p13 p14 p15 p16 p17 p18 p19, IntKind.i64.min ≤ p0 → p0 ≤ IntKind.i64.max → IntKind.i64.min ≤ p1 → p1 ≤ IntKind.i64.max → IntKind.i64.min ≤ p2 → p2 ≤ IntKind.i64.max → IntKind.i64.min ≤ p3 → p3 ≤ IntKind.i64.max → IntKind.i64.min ≤ p4 → p4 ≤ IntKind.i64.max → IntKind.i64.min ≤ p5 → p5 ≤ IntKind.i64.max → IntKind.i64.min ≤ p6 → p6 ≤ IntKind.i64.max → IntKind.u16.min ≤ p7 → p7 ≤ IntKind.u16.max → IntKind.i64.min ≤ p8 → p8 ≤ IntKind.i64.max → IntKind.i64.min ≤ p9 → p9 ≤ IntKind.i64.max → IntKind.u16.min ≤ p12 → p12 ≤ IntKind.u16.max → IntKind.u16.min ≤ p13 → p13 ≤ IntKind.u16.max → IntKind.u16.min ≤ p14 → p14 ≤ IntKind.u16.max → IntKind.u16.min ≤ p15 → p15 ≤ IntKind.u16.max → IntKind.u16.min ≤ p16 → p16 ≤ IntKind.u16.max → IntKind.u16.min ≤ p17 → p17 ≤ IntKind.u16.max → IntKind.u16.min ≤ p18 → p18 ≤ IntKind.u16.max → inKind (.l LV) p19 → pre_fM_Draw [.int .i64 p0, .int .i64 p1, .int .i64 p2, .int .i64 p3, .int .i64 p4, .int .i64 p5, .int .i64 p6, .int .u16 p7, .int .i64 p8, .int .i64 p9, .bool p10, .bool p11, .int .u16 p12, .int .u16 p13, .int .u16 p14, .int .u16 p15, .int .u16 p16, .int .u16 p17, .int .u16 p18, p19] = true → (evB ⟨[C_fM_paint], []⟩ Tryz.prog [S_sample_Valid, S_fM_scaled] 1000 LC0_fM_Draw [.int .i64 p0, .int .i64 p1, .int .i64 p2, .int .i64 p3, .int .i64 p4, .int .i64 p5, .int .i64 p6, .int .u16 p7, .int .i64 p8, .int .i64 p9, .bool p10, .bool p11, .int .u16 p12, .int .u16 p13, .int .u16 p14, .int .u16 p15, .int .u16 p16, .int .u16 p17, .int .u16 p18, p19]).ok = true) : LoopTrue Tryz.prog InvN LC_fM_Draw := body_true env_fM_Draw.1 env_fM_Draw.2 1000 LC_fM_Draw rfl (fun xs => LF_fM_Draw_is xs) (by
 refine kLi fun p0 p0lo p0hi => ?_
 refine kLi fun p1 p1lo p1hi => ?_
 refine kLi fun p2 p2lo p2hi => ?_
 refine kLi fun p3 p3lo p3hi => ?_
 refine kLi fun p4 p4lo p4hi => ?_
 refine kLi fun p5 p5lo p5hi => ?_
 refine kLi fun p6 p6lo p6hi => ?_
 refine kLi fun p7 p7lo p7hi => ?_
 refine kLi fun p8 p8lo p8hi => ?_
 refine kLi fun p9 p9lo p9hi => ?_
 refine kLb fun p10 => ?_
 refine kLb fun p11 => ?_
 refine kLi fun p12 p12lo p12hi => ?_
 refine kLi fun p13 p13lo p13hi => ?_
 refine kLi fun p14 p14lo p14hi => ?_
 refine kLi fun p15 p15lo p15hi => ?_
 refine kLi fun p16 p16lo p16hi => ?_
 refine kLi fun p17 p17lo p17hi => ?_
 refine kLi fun p18 p18lo p18hi => ?_
 refine kLc fun p19 p19k => ?_
 refine kLn ?_
 intro hp
 exact h p0 p1 p2 p3 p4 p5 p6 p7 p8 p9 p10 p11 p12 p13 p14 p15 p16 p17 p18 p19 p0lo p0hi p1lo p1hi p2lo p2hi p3lo p3hi p4lo p4hi p5lo p5hi p6lo p6hi p7lo p7hi p8lo p8hi p9lo p9hi p12lo p12hi p13lo p13hi p14lo p14hi p15lo p15hi p16lo p16hi p17lo p17hi p18lo p18hi p19k hp)
theorem ok_fM_Draw : LoopTrue Tryz.prog InvN LC_fM_Draw := okA_fM_Draw fun p0 p1 p2 p3 p4 p5 p6 p7 p8 p9 p10 p11 p12 p13 p14 p15 p16 p17 p18 p19 _ _ _ _ _ _ _ _ _ _ _ _ _ _ _ _ _ _ _ _ _ _ _ _ _ _ _ _ _ _ _ _ _ _ _ hp => by
 have hp : lenOK p19 = true := hp
 rw [okB_fM_Draw]
 refine bif_ok (fun _ => rfl) fun _ => ?_
 dsimp only
 refine bif_ok (fun _ => rfl) fun _ => ?_
 refine bif_ok (fun _ => rfl) fun _ => bif_ok (fun _ => ?_) (fun h => bool_no (c := lenOK p19) hp h)
 refine bif_ok (fun _ => rfl) fun _ => ?_
 rw [lenOK.last hp]
 rfl
theorem draw_len (p0 p1 p2 p3 p4 p5 p6 p7 p8 p9 : Int) (p10 p11 : Bool) (p12 p13 p14 p15 p16 p17 p18 : Int) (p19 : Value) (hp : lenOK p19 = true) : ∃ (a b c d f e : Int) (L : Value), LF_fM_Draw [.int .i64 p0, .int .i64 p1, .int .i64 p2, .int .i64 p3, .int .i64 p4, .int .i64 p5, .int .i64 p6, .int .u16 p7, .int .i64 p8, .int .i64 p9, .bool p10, .bool p11, .int .u16 p12, .int .u16 p13, .int .u16 p14, .int .u16 p15, .int .u16 p16, .int .u16 p17, .int .u16 p18, p19] = [.int .i64 0, .int .u16 a, .int .u16 b, .int .u16 c, .int .u16 d, .int .u16 f, .int .i64 e, .int .u16 p18, L] ∧ LN L = LN p19 := by
 rw [LF_fM_Draw_eq]
 unfold OUT_fM_Draw
 refine bifP (p := fun o => ∃ (a b c d f e : Int) (L : Value), o = [.int .i64 0, .int .u16 a, .int .u16 b, .int .u16 c, .int .u16 d, .int .u16 f, .int .i64 e, .int .u16 p18, L] ∧ LN L = LN p19) (fun _ => ⟨0, 0, 0, 0, 0, 20, p19, rfl, rfl⟩) fun _ => ?_
 dsimp only
 refine bifP (p := fun o => ∃ (a b c d f e : Int) (L : Value), o = [.int .i64 0, .int .u16 a, .int .u16 b, .int .u16 c, .int .u16 d, .int .u16 f, .int .i64 e, .int .u16 p18, L] ∧ LN L = LN p19) (fun _ => ⟨0, 0, 0, 0, 0, 20, p19, rfl, rfl⟩) fun _ => ?_
 refine bifP (p := fun o => ∃ (a b c d f e : Int) (L : Value), o = [.int .i64 0, .int .u16 a, .int .u16 b, .int .u16 c, .int .u16 d, .int .u16 f, .int .i64 e, .int .u16 p18, L] ∧ LN L = LN p19) (fun _ => ⟨0, 0, 0, 0, 0, 20, p19, rfl, rfl⟩) fun _ => ?_
 refine bifP (p := fun o => ∃ (a b c d f e : Int) (L : Value), o = [.int .i64 0, .int .u16 a, .int .u16 b, .int .u16 c, .int .u16 d, .int .u16 f, .int .i64 e, .int .u16 p18, L] ∧ LN L = LN p19) (fun _ => ?_) (fun h => bool_no (c := lenOK p19) hp h)
 refine bifP (p := fun o => ∃ (a b c d f e : Int) (L : Value), o = [.int .i64 0, .int .u16 a, .int .u16 b, .int .u16 c, .int .u16 d, .int .u16 f, .int .i64 e, .int .u16 p18, L] ∧ LN L = LN p19) (fun _ => ⟨0, 0, 0, 0, 0, 16, p19, rfl, rfl⟩) fun _ => ?_
 rw [lenOK.last hp]
 exact ⟨_, _, _, _, _, _, _, rfl, LN_ST _ _ _ _⟩
def A_fM_Acc : List PS := [.c (.q [.i .u16, .l LV])]
def R_fM_Acc : RS := .one (.agg [.i .u16, .i .u16, .i .u16, .i .u16, .i .u16, .i .u16])
noncomputable def L_fM_Acc : List Value → List Value := Classical.choose (veil fun vs => (evFM ⟨[C_fM_top], []⟩ Tryz.prog [] 1000 20 (inL A_fM_Acc vs) R_fM_Acc).outL)
theorem L_fM_Acc_is (vs : List Value) : L_fM_Acc vs = (evFM ⟨[C_fM_top], []⟩ Tryz.prog [] 1000 20 (inL A_fM_Acc vs) R_fM_Acc).outL := Classical.choose_spec (veil _) vs
def pre_fM_Acc : List Value → Bool := fun vs => lenOK (CV (vs.getD 0 undef) 1)
noncomputable def C_fM_Acc : CSum := ⟨20, L_fM_Acc, pre_fM_Acc, A_fM_Acc, R_fM_Acc⟩
theorem env_fM_Acc : EnvOK Tryz.prog InvN ⟨[C_fM_top], []⟩ ∧ AllOK Tryz.prog InvN [] := ⟨⟨(allC_cons ok_fM_top allC_nil), allL_nil⟩, allOK_nil⟩
theorem okG_fM_Acc (vs : List Value) : (evFM ⟨[C_fM_top], []⟩ Tryz.prog [] 1000 20 (inL A_fM_Acc vs) R_fM_Acc).goodX R_fM_Acc = true := by kernel_rfl
theorem okB_fM_Acc (p0 : Value) : (evFM ⟨[C_fM_top], []⟩ Tryz.prog [] 1000 20 (inL A_fM_Acc [p0]) R_fM_Acc).ok =
 bif (pre_fM_top [p0]) then
 (true)
 else
 (false) := (okR_eq _).trans (by kernel_rfl)
theorem okA_fM_Acc (h : ∀ p0 , inKind (.q [.i .u16, .l LV]) p0 → pre_fM_Acc [p0] = true → (evFM ⟨[C_fM_top], []⟩ Tryz.prog [] 1000 20 (inL A_fM_Acc [p0]) R_fM_Acc).ok = true) : CSumOK Tryz.prog InvN C_fM_Acc := csumOK_partV invN_stays env_fM_Acc.1 env_fM_Acc.2 1000 20 A_fM_Acc R_fM_Acc L_fM_Acc_is pre_fM_Acc okG_fM_Acc (fun vs hk hp => by
 obtain ⟨p0, _, rfl, p0k, rfl⟩ := hk
 exact h p0 p0k hp)
theorem ok_fM_Acc : CSumOK Tryz.prog InvN C_fM_Acc := okA_fM_Acc fun p0 _ hp => by
 have hp : pre_fM_top [p0] = true := hp
 rw [okB_fM_Acc, hp]
 rfl
noncomputable def F_fM_Acc (p0 : Value) : Int × Int × Int × Int × Int × Int := (fun l => (num (l.getD 0 undef), num (l.getD 1 undef), num (l.getD 2 undef), num (l.getD 3 undef), num (l.getD 4 undef), num (l.getD 5 undef))) (L_fM_Acc [p0])
theorem F_fM_Acc_eq (p0 : Value) : F_fM_Acc p0 =
 bif (pre_fM_top [p0]) then
 (let x0 := F_fM_top p0
 (x0.2.2.2.2.2.2.2.2.2.2.2.2.1, x0.2.2.2.2.2.2.2.2.2.2.2.2.2.1, x0.2.2.2.2.2.2.2.2.2.2.2.2.2.2.1, x0.2.2.2.2.2.2.2.2.2.2.2.2.2.2.2.1, x0.2.2.2.2.2.2.2.2.2.2.2.2.2.2.2.2.1, x0.2.2.2.2.2.2.2.2.2.2.2.2.2.2.2.2.2.1))
 else
 (((num undef), (num undef), (num undef), (num undef), (num undef), (num undef))) :=
 spellV (L := L_fM_Acc) (fun l => (num (l.getD 0 undef), num (l.getD 1 undef), num (l.getD 2 undef), num (l.getD 3 undef), num (l.getD 4 undef), num (l.getD 5 undef))) (evFM ⟨[C_fM_top], []⟩ Tryz.prog [] 1000 20 (inL A_fM_Acc [p0]) R_fM_Acc) (L_fM_Acc_is _) (by kernel_rfl)
def A_fM_Result : List PS := [.c (.q [.i .u16, .l LV])]
def R_fM_Result : RS := .tup [.agg [.i .u16, .i .u16, .i .u16, .i .u16, .i .u16], .c (.i .i64)]
noncomputable def L_fM_Result : List Value → List Value := Classical.choose (veil fun vs => (evFM ⟨[C_fM_top, C_fM_Depth], []⟩ Tryz.prog [S_group_Result] 1000 28 (inL A_fM_Result vs) R_fM_Result).outL)
theorem L_fM_Result_is (vs : List Value) : L_fM_Result vs = (evFM ⟨[C_fM_top, C_fM_Depth], []⟩ Tryz.prog [S_group_Result] 1000 28 (inL A_fM_Result vs) R_fM_Result).outL := Classical.choose_spec (veil _) vs
def pre_fM_Result : List Value → Bool := fun vs => lenOK (CV (vs.getD 0 undef) 1)
noncomputable def C_fM_Result : CSum := ⟨28, L_fM_Result, pre_fM_Result, A_fM_Result, R_fM_Result⟩
theorem env_fM_Result : EnvOK Tryz.prog InvN ⟨[C_fM_top, C_fM_Depth], []⟩ ∧ AllOK Tryz.prog InvN [S_group_Result] := ⟨⟨(allC_cons ok_fM_top (allC_cons ok_fM_Depth allC_nil)), allL_nil⟩, (allOK_cons ok_group_Result allOK_nil)⟩
theorem okG_fM_Result (vs : List Value) : (evFM ⟨[C_fM_top, C_fM_Depth], []⟩ Tryz.prog [S_group_Result] 1000 28 (inL A_fM_Result vs) R_fM_Result).goodX R_fM_Result = true := by kernel_rfl
theorem okB_fM_Result (p0 : Value) : (evFM ⟨[C_fM_top, C_fM_Depth], []⟩ Tryz.prog [S_group_Result] 1000 28 (inL A_fM_Result [p0]) R_fM_Result).ok =
 bif (pre_fM_Depth [p0]) then
 (let x0 := F_fM_Depth p0
 bif (x0 != 0) then
 (true)
 else
 (bif (pre_fM_top [p0]) then
 (bif (pre_fM_top [p0]) then
 (true)
 else
 (false))
 else
 (false)))
 else
 (false) := (okR_eq _).trans (by kernel_rfl)
theorem okA_fM_Result (h : ∀ p0 , inKind (.q [.i .u16, .l LV]) p0 → pre_fM_Result [p0] = true → (evFM ⟨[C_fM_top, C_fM_Depth], []⟩ Tryz.prog [S_group_Result] 1000 28 (inL A_fM_Result [p0]) R_fM_Result).ok = true) : CSumOK Tryz.prog InvN C_fM_Result := csumOK_partV invN_stays env_fM_Result.1 env_fM_Result.2 1000 28 A_fM_Result R_fM_Result L_fM_Result_is pre_fM_Result okG_fM_Result (fun vs hk hp => by
 obtain ⟨p0, _, rfl, p0k, rfl⟩ := hk
 exact h p0 p0k hp)
theorem ok_fM_Result : CSumOK Tryz.prog InvN C_fM_Result := okA_fM_Result fun p0 _ hp => by
 have hp : pre_fM_top [p0] = true := hp
 rw [okB_fM_Result, hp]
 refine bif_ok (fun _ => ?_) (fun h => bool_no (c := true) rfl h)
 exact bif_ok (fun _ => rfl) (fun _ => rfl)
noncomputable def F_fM_Result (p0 : Value) : Int × Int × Int × Int × Int × Int := (fun l => (num (l.getD 0 undef), num (l.getD 1 undef), num (l.getD 2 undef), num (l.getD 3 undef), num (l.getD 4 undef), num (l.getD 5 undef))) (L_fM_Result [p0])
theorem F_fM_Result_eq (p0 : Value) : F_fM_Result p0 =
 bif (pre_fM_Depth [p0]) then
 (let x0 := F_fM_Depth p0
 bif (x0 != 0) then
 ((0, 0, 0, 0, 0, 18))
 else
 (bif (pre_fM_top [p0]) then
 (bif (pre_fM_top [p0]) then
 (let x1 := F_fM_top p0
 let x2 := F_group_Result x1.2.2.2.2.2.2.2.2.2.2.2.2.1 x1.2.2.2.2.2.2.2.2.2.2.2.2.2.1 x1.2.2.2.2.2.2.2.2.2.2.2.2.2.2.1 x1.2.2.2.2.2.2.2.2.2.2.2.2.2.2.2.1 x1.2.2.2.2.2.2.2.2.2.2.2.2.2.2.2.2.1 x1.2.2.2.2.2.2.2.2.2.2.2.2.2.2.2.2.2.1 x1.2.2.2.2.2.2.2.2.2.2.2.2.2.2.2.2.2.2.1 x1.2.2.2.2.2.2.2.2.2.2.2.2.2.2.2.2.2.2.2.1 x1.2.2.2.2.2.2.2.2.2.2.2.2.2.2.2.2.2.2.2.2.1 x1.2.2.2.2.2.2.2.2.2.2.2.2.2.2.2.2.2.2.2.2.2.1 x1.2.2.2.2.2.2.2.2.2.2.2.2.2.2.2.2.2.2.2.2.2.2 (num (CV p0 0))
 (x2.1, x2.2.1, x2.2.2.1, x2.2.2.2.1, x2.2.2.2.2.1, 0))
 else
 (((num undef), (num undef), (num undef), (num undef), (num undef), (num undef))))
 else
 (((num undef), (num undef), (num undef), (num undef), (num undef), (num undef)))))
 else
 (((num undef), (num undef), (num undef), (num undef), (num undef), (num undef))) :=
 spellV (L := L_fM_Result) (fun l => (num (l.getD 0 undef), num (l.getD 1 undef), num (l.getD 2 undef), num (l.getD 3 undef), num (l.getD 4 undef), num (l.getD 5 undef))) (evFM ⟨[C_fM_top, C_fM_Depth], []⟩ Tryz.prog [S_group_Result] 1000 28 (inL A_fM_Result [p0]) R_fM_Result) (L_fM_Result_is _) (by kernel_rfl)
def A_law22_awake : List PS := []
def R_law22_awake : RS := .one (.c (.b))
noncomputable def L_law22_awake : List Value → List Value := Classical.choose (veil fun vs => (evFM ⟨[C_fM_Depth, C_fM_Acc], [LC_fM_Push, LC_fM_Draw]⟩ Tryz.prog [] 1000 9 (inL A_law22_awake vs) R_law22_awake).outL)
theorem L_law22_awake_is (vs : List Value) : L_law22_awake vs = (evFM ⟨[C_fM_Depth, C_fM_Acc], [LC_fM_Push, LC_fM_Draw]⟩ Tryz.prog [] 1000 9 (inL A_law22_awake vs) R_law22_awake).outL := Classical.choose_spec (veil _) vs
noncomputable def S_law22_awake : Sum := ⟨9, L_law22_awake, A_law22_awake, R_law22_awake⟩
theorem env_law22_awake : EnvOK Tryz.prog InvN ⟨[C_fM_Depth, C_fM_Acc], [LC_fM_Push, LC_fM_Draw]⟩ ∧ AllOK Tryz.prog InvN [] := ⟨⟨(allC_cons ok_fM_Depth (allC_cons ok_fM_Acc allC_nil)), (allL_cons ok_fM_Push (allL_cons ok_fM_Draw allL_nil))⟩, allOK_nil⟩
theorem okG_law22_awake (vs : List Value) : (evFM ⟨[C_fM_Depth, C_fM_Acc], [LC_fM_Push, LC_fM_Draw]⟩ Tryz.prog [] 1000 9 (inL A_law22_awake vs) R_law22_awake).goodX R_law22_awake = true := by kernel_rfl
theorem okB_law22_awake : (evFM ⟨[C_fM_Depth, C_fM_Acc], [LC_fM_Push, LC_fM_Draw]⟩ Tryz.prog [] 1000 9 (inL A_law22_awake []) R_law22_awake).ok =
 bif (pre_fM_Draw [.int .i64 1, .int .i64 0, .int .i64 0, .int .i64 0, .int .i64 0, .int .i64 0, .int .i64 0, .int .u16 255, .int .i64 4, .int .i64 1, .bool false, .bool false, .int .u16 9, .int .u16 0, .int .u16 0, .int .u16 10, .int .u16 20, .int .u16 0, .int .u16 255, (LSV 23 1 [.int .i64 2, .int .i64 0, .int .i64 0, .int .i64 0, .int .i64 0, .int .i64 0, .int .i64 0, .int .u16 0, .int .i64 0, .int .i64 0, .bool true, .bool false, .int .u16 0, .int .u16 0, .int .u16 0, .int .u16 0, .int .u16 0, .int .u16 0, .int .u16 0, .int .u16 0, .int .u16 0, .int .u16 0, .int .u16 0])]) then
 (let x0 := LF_fM_Draw [.int .i64 1, .int .i64 0, .int .i64 0, .int .i64 0, .int .i64 0, .int .i64 0, .int .i64 0, .int .u16 255, .int .i64 4, .int .i64 1, .bool false, .bool false, .int .u16 9, .int .u16 0, .int .u16 0, .int .u16 10, .int .u16 20, .int .u16 0, .int .u16 255, (LSV 23 1 [.int .i64 2, .int .i64 0, .int .i64 0, .int .i64 0, .int .i64 0, .int .i64 0, .int .i64 0, .int .u16 0, .int .i64 0, .int .i64 0, .bool true, .bool false, .int .u16 0, .int .u16 0, .int .u16 0, .int .u16 0, .int .u16 0, .int .u16 0, .int .u16 0, .int .u16 0, .int .u16 0, .int .u16 0, .int .u16 0])]
 bif (pre_fM_Push [.int .i64 2, .int .i64 0, .int .i64 0, .int .i64 0, .int .i64 0, .int .i64 0, .int .i64 0, .int .u16 255, .int .i64 4, .int .i64 1, .bool false, .bool false, .int .u16 (num (x0.getD 7 undef)), (x0.getD 8 undef)]) then
 (let x1 := LF_fM_Push [.int .i64 2, .int .i64 0, .int .i64 0, .int .i64 0, .int .i64 0, .int .i64 0, .int .i64 0, .int .u16 255, .int .i64 4, .int .i64 1, .bool false, .bool false, .int .u16 (num (x0.getD 7 undef)), (x0.getD 8 undef)]
 bif (pre_fM_Acc [(PK [.int .u16 (num (x1.getD 2 undef)), (x1.getD 3 undef)])]) then
 (bif ((num (x0.getD 6 undef)) == 0) then
 (bif ((((num (x0.getD 1 undef)) == 9) && (((num (x0.getD 2 undef)) == 0) && ((num (x0.getD 3 undef)) == 0))) && (((num (x0.getD 4 undef)) == 10) && ((num (x0.getD 5 undef)) == 20))) then
 (bif ((num (x1.getD 1 undef)) == 0) then
 (bif (pre_fM_Depth [(PK [.int .u16 (num (x1.getD 2 undef)), (x1.getD 3 undef)])]) then
 (true)
 else
 (false))
 else
 (true))
 else
 (true))
 else
 (true))
 else
 (false))
 else
 (false))
 else
 (false) := (okR_eq _).trans (by kernel_rfl)
theorem okA_law22_awake (h : (evFM ⟨[C_fM_Depth, C_fM_Acc], [LC_fM_Push, LC_fM_Draw]⟩ Tryz.prog [] 1000 9 (inL A_law22_awake []) R_law22_awake).ok = true) : SumOK Tryz.prog InvN S_law22_awake := sumOK_partL invN_stays env_law22_awake.1 env_law22_awake.2 1000 9 A_law22_awake R_law22_awake L_law22_awake_is okG_law22_awake (fun vs hk => by
 obtain ⟨rfl⟩ := hk
 exact h)
theorem ok_law22_awake : SumOK Tryz.prog InvN S_law22_awake := okA_law22_awake (by
 rw [okB_law22_awake]
 obtain ⟨a, b, c, d, f, e, L1, h0, l0⟩ := draw_len 1 0 0 0 0 0 0 255 4 1 false false 9 0 0 10 20 0 255 (LSV 23 1 [.int .i64 2, .int .i64 0, .int .i64 0, .int .i64 0, .int .i64 0, .int .i64 0, .int .i64 0, .int .u16 0, .int .i64 0, .int .i64 0, .bool true, .bool false, .int .u16 0, .int .u16 0, .int .u16 0, .int .u16 0, .int .u16 0, .int .u16 0, .int .u16 0, .int .u16 0, .int .u16 0, .int .u16 0, .int .u16 0]) (lenOK.lit _ _)
 have k1 : lenOK L1 = true := lenOK.of (by rw [l0, LN_LSV]; decide) (by rw [l0, LN_LSV]; decide)
 obtain ⟨e1, L2, h1, l1⟩ := push_len 2 0 0 0 0 0 0 255 4 1 false false 255 L1 k1
 have k2 : lenOK L2 = true := lenOK.of (by have := lenOK.b k1; omega) (by rw [l0, LN_LSV] at l1; omega)
 have q0 : pre_fM_Draw [.int .i64 1, .int .i64 0, .int .i64 0, .int .i64 0, .int .i64 0, .int .i64 0, .int .i64 0, .int .u16 255, .int .i64 4, .int .i64 1, .bool false, .bool false, .int .u16 9, .int .u16 0, .int .u16 0, .int .u16 10, .int .u16 20, .int .u16 0, .int .u16 255, (LSV 23 1 [.int .i64 2, .int .i64 0, .int .i64 0, .int .i64 0, .int .i64 0, .int .i64 0, .int .i64 0, .int .u16 0, .int .i64 0, .int .i64 0, .bool true, .bool false, .int .u16 0, .int .u16 0, .int .u16 0, .int .u16 0, .int .u16 0, .int .u16 0, .int .u16 0, .int .u16 0, .int .u16 0, .int .u16 0, .int .u16 0])] = true := lenOK.lit _ _
 have q1 : pre_fM_Push [.int .i64 2, .int .i64 0, .int .i64 0, .int .i64 0, .int .i64 0, .int .i64 0, .int .i64 0, .int .u16 255, .int .i64 4, .int .i64 1, .bool false, .bool false, .int .u16 255, L1] = true := k1
 have q2 : pre_fM_Acc [PK [.int .u16 255, L2]] = true := k2
 have q3 : ∀ vs, pre_fM_Depth vs = true := fun _ => rfl
 simp only [q0, h0, List.getD_cons_succ, List.getD_cons_zero, num_int, q1, h1, q2, q3, cond_true]
 repeat' (first | rfl | refine bif_ok (fun _ => ?_) (fun _ => ?_)))
noncomputable def F_law22_awake : Bool := (fun l => tru (l.getD 0 undef)) (L_law22_awake [])
theorem F_law22_awake_eq : F_law22_awake =
 bif (pre_fM_Draw [.int .i64 1, .int .i64 0, .int .i64 0, .int .i64 0, .int .i64 0, .int .i64 0, .int .i64 0, .int .u16 255, .int .i64 4, .int .i64 1, .bool false, .bool false, .int .u16 9, .int .u16 0, .int .u16 0, .int .u16 10, .int .u16 20, .int .u16 0, .int .u16 255, (LSV 23 1 [.int .i64 2, .int .i64 0, .int .i64 0, .int .i64 0, .int .i64 0, .int .i64 0, .int .i64 0, .int .u16 0, .int .i64 0, .int .i64 0, .bool true, .bool false, .int .u16 0, .int .u16 0, .int .u16 0, .int .u16 0, .int .u16 0, .int .u16 0, .int .u16 0, .int .u16 0, .int .u16 0, .int .u16 0, .int .u16 0])]) then
 (let x0 := LF_fM_Draw [.int .i64 1, .int .i64 0, .int .i64 0, .int .i64 0, .int .i64 0, .int .i64 0, .int .i64 0, .int .u16 255, .int .i64 4, .int .i64 1, .bool false, .bool false, .int .u16 9, .int .u16 0, .int .u16 0, .int .u16 10, .int .u16 20, .int .u16 0, .int .u16 255, (LSV 23 1 [.int .i64 2, .int .i64 0, .int .i64 0, .int .i64 0, .int .i64 0, .int .i64 0, .int .i64 0, .int .u16 0, .int .i64 0, .int .i64 0, .bool true, .bool false, .int .u16 0, .int .u16 0, .int .u16 0, .int .u16 0, .int .u16 0, .int .u16 0, .int .u16 0, .int .u16 0, .int .u16 0, .int .u16 0, .int .u16 0])]
 bif (pre_fM_Push [.int .i64 2, .int .i64 0, .int .i64 0, .int .i64 0, .int .i64 0, .int .i64 0, .int .i64 0, .int .u16 255, .int .i64 4, .int .i64 1, .bool false, .bool false, .int .u16 (num (x0.getD 7 undef)), (x0.getD 8 undef)]) then
 (let x1 := LF_fM_Push [.int .i64 2, .int .i64 0, .int .i64 0, .int .i64 0, .int .i64 0, .int .i64 0, .int .i64 0, .int .u16 255, .int .i64 4, .int .i64 1, .bool false, .bool false, .int .u16 (num (x0.getD 7 undef)), (x0.getD 8 undef)]
 bif (pre_fM_Acc [(PK [.int .u16 (num (x1.getD 2 undef)), (x1.getD 3 undef)])]) then
 (bif ((num (x0.getD 6 undef)) == 0) then
 (bif ((((num (x0.getD 1 undef)) == 9) && (((num (x0.getD 2 undef)) == 0) && ((num (x0.getD 3 undef)) == 0))) && (((num (x0.getD 4 undef)) == 10) && ((num (x0.getD 5 undef)) == 20))) then
 (bif ((num (x1.getD 1 undef)) == 0) then
 (bif (pre_fM_Depth [(PK [.int .u16 (num (x1.getD 2 undef)), (x1.getD 3 undef)])]) then
 (let x2 := F_fM_Depth (PK [.int .u16 (num (x1.getD 2 undef)), (x1.getD 3 undef)])
 bif (x2 == 1) then
 (let x3 := F_fM_Acc (PK [.int .u16 (num (x1.getD 2 undef)), (x1.getD 3 undef)])
 bif (x3.2.2.2.1 == 10) then
 (bif (x3.1 == 9) then
 ((x3.2.2.2.2.2 == 0))
 else
 (false))
 else
 (false))
 else
 (false))
 else
 ((tru undef)))
 else
 (false))
 else
 (false))
 else
 (false))
 else
 ((tru undef)))
 else
 ((tru undef)))
 else
 ((tru undef)) :=
 spellV (L := L_law22_awake) (fun l => tru (l.getD 0 undef)) (evFM ⟨[C_fM_Depth, C_fM_Acc], [LC_fM_Push, LC_fM_Draw]⟩ Tryz.prog [] 1000 9 (inL A_law22_awake []) R_law22_awake) (L_law22_awake_is _) (by kernel_rfl)
end Go.Proofs.YtdioaiepkhepaaaGreatDoor
