/- A step of a machine and of the document's machine; both are the same. No condition. -/
import Derived.Test.YtdioaiepkhepaaaGreatDoorMz
import Derived.Test.YtdioaiepkhepaaaGreatDoorSm22s
namespace Go.Proofs.YtdioaiepkhepaaaGreatDoor
set_option maxRecDepth 100000
open Go.RowKit
def StepP (m : Int) (o : List Value) : Prop := ∃ L', o = [.int .i64 0, .bool true, .int .u16 m, L', .int .u16 m, L'] ∧ Good L'
theorem alike {m x0 x1 x2 x3 x4 e : Int} {L' : Value} (gl : Good L') {xs : List Value} (h : xs = [.int .i64 0, .int .u16 x0, .int .u16 x1, .int .u16 x2, .int .u16 x3, .int .u16 x4, .int .i64 e, .int .u16 m, L']) : StepP m (
 bif ((((num (xs.getD 1 undef)) == (num (xs.getD 1 undef))) && (((num (xs.getD 2 undef)) == (num (xs.getD 2 undef))) && ((num (xs.getD 3 undef)) == (num (xs.getD 3 undef))))) && (((num (xs.getD 4 undef)) == (num (xs.getD 4 undef))) && ((num (xs.getD 5 undef)) == (num (xs.getD 5 undef))))) then
  ([.int .i64 0, .bool ((num (xs.getD 6 undef)) == (num (xs.getD 6 undef))), .int .u16 (num (xs.getD 7 undef)), (xs.getD 8 undef), .int .u16 (num (xs.getD 7 undef)), (xs.getD 8 undef)])
 else
  ([.int .i64 0, .bool false, .int .u16 (num (xs.getD 7 undef)), (xs.getD 8 undef), .int .u16 (num (xs.getD 7 undef)), (xs.getD 8 undef)])) := by
 rw [h]
 refine ⟨L', ?_, gl⟩
 simp only [List.getD_cons_succ, List.getD_cons_zero, num_int, beq_self_eq_true, Bool.and_self, cond_true]
section
variable {q0 q1 q2 q3 q4 q5 q6 r o k : Int} {b0 b1 : Bool} {m : Int} {L : Value} (g : Good L)
include g
theorem pushP (hr : Is16 r) : StepP m (let x3 := LF_fM_Push [.int .i64 q0, .int .i64 q1, .int .i64 q2, .int .i64 q3, .int .i64 q4, .int .i64 q5, .int .i64 q6, .int .u16 r, .int .i64 o, .int .i64 k, .bool b0, .bool b1, .int .u16 m, L]
 let x4 := LF_rM_Push [.int .i64 q0, .int .i64 q1, .int .i64 q2, .int .i64 q3, .int .i64 q4, .int .i64 q5, .int .i64 q6, .int .u16 r, .int .i64 o, .int .i64 k, .bool b0, .bool b1, .int .u16 m, L]
 [.int .i64 0, .bool ((num (x3.getD 1 undef)) == (num (x4.getD 1 undef))), .int .u16 (num (x3.getD 2 undef)), (x3.getD 3 undef), .int .u16 (num (x4.getD 2 undef)), (x4.getD 3 undef)]) := by
 rw [pushF g, pushR g]
 obtain ⟨e, L', h, gl⟩ := push_good (q0 := q0) (q1 := q1) (q2 := q2) (q3 := q3) (q4 := q4) (q5 := q5) (q6 := q6) (r := r) (o := o) (k := k) (b0 := b0) (b1 := b1) g hr
 rw [h]
 refine ⟨L', ?_, gl⟩
 simp only [List.getD_cons_succ, List.getD_cons_zero, num_int, beq_self_eq_true]
theorem accF : F_fM_Acc (PK [.int .u16 m, L]) = (num (CV (IX L (LN L - 1)) 12), num (CV (IX L (LN L - 1)) 13), num (CV (IX L (LN L - 1)) 14), num (CV (IX L (LN L - 1)) 15), num (CV (IX L (LN L - 1)) 16), num (CV (IX L (LN L - 1)) 17)) := by
 have hp : pre_fM_top [PK [.int .u16 m, L]] = true := g.ok
 rw [F_fM_Acc_eq, hp, cond_true, topF g]
theorem accR : F_rM_Acc (PK [.int .u16 m, L]) = (num (CV (IX L (LN L - 1)) 12), num (CV (IX L (LN L - 1)) 13), num (CV (IX L (LN L - 1)) 14), num (CV (IX L (LN L - 1)) 15), num (CV (IX L (LN L - 1)) 16), num (CV (IX L (LN L - 1)) 17)) := by
 have hp : pre_rM_top [PK [.int .u16 m, L]] = true := rfl
 have e : CV (PK [.int .u16 m, L]) 1 = L := rfl
 rw [F_rM_Acc_eq, hp, cond_true, rtop g, e]
 simp only [inb_last g, cond_true]
theorem backF : F_fM_Back (PK [.int .u16 m, L]) = (num (CV (IX L (LN L - 1)) 18), num (CV (IX L (LN L - 1)) 19), num (CV (IX L (LN L - 1)) 20), num (CV (IX L (LN L - 1)) 21), num (CV (IX L (LN L - 1)) 22)) := by
 have hp : pre_fM_top [PK [.int .u16 m, L]] = true := g.ok
 rw [F_fM_Back_eq, hp, cond_true, topF g]
theorem backR : F_rM_Back (PK [.int .u16 m, L]) = (num (CV (IX L (LN L - 1)) 18), num (CV (IX L (LN L - 1)) 19), num (CV (IX L (LN L - 1)) 20), num (CV (IX L (LN L - 1)) 21), num (CV (IX L (LN L - 1)) 22)) := by
 have hp : pre_rM_top [PK [.int .u16 m, L]] = true := rfl
 have e : CV (PK [.int .u16 m, L]) 1 = L := rfl
 rw [F_rM_Back_eq, hp, cond_true, rtop g, e]
 simp only [inb_last g, cond_true]
end
section
variable {q0 q1 q2 q3 q4 q5 q6 r o k : Int} {b0 b1 : Bool} {c0 c1 c2 a f s m : Int} {L : Value} (g : Good L) (hm : m = 255 ∨ m = 65535)
include g hm
theorem popP (hs : Is16 s) : StepP m (let x8 := LF_fM_Pop [.int .u16 s, .int .u16 m, L]
 let x9 := LF_rM_Pop [.int .u16 s, .int .u16 m, L]
 bif ((((num (x8.getD 1 undef)) == (num (x9.getD 1 undef))) && (((num (x8.getD 2 undef)) == (num (x9.getD 2 undef))) && ((num (x8.getD 3 undef)) == (num (x9.getD 3 undef))))) && (((num (x8.getD 4 undef)) == (num (x9.getD 4 undef))) && ((num (x8.getD 5 undef)) == (num (x9.getD 5 undef))))) then
  ([.int .i64 0, .bool ((num (x8.getD 6 undef)) == (num (x9.getD 6 undef))), .int .u16 (num (x8.getD 7 undef)), (x8.getD 8 undef), .int .u16 (num (x9.getD 7 undef)), (x9.getD 8 undef)])
 else
  ([.int .i64 0, .bool false, .int .u16 (num (x8.getD 7 undef)), (x8.getD 8 undef), .int .u16 (num (x9.getD 7 undef)), (x9.getD 8 undef)])) := by
 rw [popF g hm hs, popR g hm hs]
 obtain ⟨x0, x1, x2, x3, x4, e, L', h, gl⟩ := pop_good g hm hs
 exact alike gl h
theorem drawP (p : P16 c0 c1 c2 a f) (hs : Is16 s) (hr : Is16 r) : StepP m (let x13 := LF_fM_Draw [.int .i64 q0, .int .i64 q1, .int .i64 q2, .int .i64 q3, .int .i64 q4, .int .i64 q5, .int .i64 q6, .int .u16 r, .int .i64 o, .int .i64 k, .bool b0, .bool b1, .int .u16 c0, .int .u16 c1, .int .u16 c2, .int .u16 a, .int .u16 f, .int .u16 s, .int .u16 m, L]
 let x14 := LF_rM_Draw [.int .i64 q0, .int .i64 q1, .int .i64 q2, .int .i64 q3, .int .i64 q4, .int .i64 q5, .int .i64 q6, .int .u16 r, .int .i64 o, .int .i64 k, .bool b0, .bool b1, .int .u16 c0, .int .u16 c1, .int .u16 c2, .int .u16 a, .int .u16 f, .int .u16 s, .int .u16 m, L]
 bif ((((num (x13.getD 1 undef)) == (num (x14.getD 1 undef))) && (((num (x13.getD 2 undef)) == (num (x14.getD 2 undef))) && ((num (x13.getD 3 undef)) == (num (x14.getD 3 undef))))) && (((num (x13.getD 4 undef)) == (num (x14.getD 4 undef))) && ((num (x13.getD 5 undef)) == (num (x14.getD 5 undef))))) then
  ([.int .i64 0, .bool ((num (x13.getD 6 undef)) == (num (x14.getD 6 undef))), .int .u16 (num (x13.getD 7 undef)), (x13.getD 8 undef), .int .u16 (num (x14.getD 7 undef)), (x14.getD 8 undef)])
 else
  ([.int .i64 0, .bool false, .int .u16 (num (x13.getD 7 undef)), (x13.getD 8 undef), .int .u16 (num (x14.getD 7 undef)), (x14.getD 8 undef)])) := by
 rw [drawF g hm p hs hr, drawR g hm p hs hr]
 obtain ⟨x0, x1, x2, x3, x4, e, L', h, gl⟩ := draw_good (q0 := q0) (q4 := q4) (o := o) (k := k) g hm p hs hr
 exact alike gl h
theorem resFR : F_fM_Result (PK [.int .u16 m, L]) = F_rM_Result (PK [.int .u16 m, L]) := by
 have hp : pre_fM_top [PK [.int .u16 m, L]] = true := g.ok
 have hq : ∀ vs, pre_fM_Depth vs = true := fun _ => rfl
 have hq' : ∀ vs, pre_rM_Depth vs = true := fun _ => rfl
 have e : CV (PK [.int .u16 m, L]) 1 = L := rfl
 have e0 : num (CV (PK [.int .u16 m, L]) 0) = m := rfl
 have l1 := g.l
 have i0 : INB L 0 = true := INB_of (by omega) (by omega)
 rw [F_fM_Result_eq, F_rM_Result_eq]
 simp only [hp, hq, hq', fdep g, rdep g, topF g, cond_true, e, e0, i0]
 by_cases h : LN L - 1 = 0
 ·rw [show (LN L - 1 != 0) = false from by rw [h]; rfl, decide_eq_false (show ¬ LN L - 1 > 0 by omega), cond_false, cond_false]
  rw [h]
  have gl := g.lev
  rw [h] at gl
  simp only [results22 (m16 hm) gl.ac gl.bk]
 ·rw [show (LN L - 1 != 0) = true from bne_iff_ne.2 h, decide_eq_true (show LN L - 1 > 0 by omega), cond_true, cond_true]
theorem same_self : F_law22_same (PK [.int .u16 m, L]) (PK [.int .u16 m, L]) = true := by
 have p1 : pre_fM_Result [PK [.int .u16 m, L]] = true := g.ok
 have p2 : pre_rM_Result [PK [.int .u16 m, L]] = true := g.ok
 have p3 : ∀ vs, pre_fM_Depth vs = true := fun _ => rfl
 have p4 : ∀ vs, pre_rM_Depth vs = true := fun _ => rfl
 have p5 : pre_fM_Acc [PK [.int .u16 m, L]] = true := g.ok
 have p6 : pre_rM_Acc [PK [.int .u16 m, L]] = true := g.ok
 have p7 : pre_fM_Back [PK [.int .u16 m, L]] = true := g.ok
 have p8 : pre_rM_Back [PK [.int .u16 m, L]] = true := g.ok
 rw [F_law22_same_eq]
 simp only [p1, p2, p3, p4, p5, p6, p7, p8, fdep g, rdep g, accF g, accR g, backF g, backR g, resFR g hm, cond_true, beq_self_eq_true, Bool.and_self]
end
theorem forkP {q0 q1 q2 q3 q4 q5 q6 r o k : Int} {b0 b1 : Bool} {c0 c1 c2 a f s m : Int} {L : Value} (g : Good L) (hm : m = 255 ∨ m = 65535) (p : P16 c0 c1 c2 a f) (hs : Is16 s) (hr : Is16 r) : StepP m (
 let x18 := LF_fM_Draw [.int .i64 q0, .int .i64 q1, .int .i64 q2, .int .i64 q3, .int .i64 q4, .int .i64 q5, .int .i64 q6, .int .u16 r, .int .i64 o, .int .i64 k, .bool b0, .bool b1, .int .u16 c0, .int .u16 c1, .int .u16 c2, .int .u16 a, .int .u16 f, .int .u16 s, .int .u16 m, F_slices_Clone L]
 bif (pre_fM_Acc [(PK [.int .u16 (num (x18.getD 7 undef)), (x18.getD 8 undef)])]) then
  (let x19 := LF_rM_Draw [.int .i64 q0, .int .i64 q1, .int .i64 q2, .int .i64 q3, .int .i64 q4, .int .i64 q5, .int .i64 q6, .int .u16 r, .int .i64 o, .int .i64 k, .bool b0, .bool b1, .int .u16 c0, .int .u16 c1, .int .u16 c2, .int .u16 a, .int .u16 f, .int .u16 s, .int .u16 m, CT NILV L]
  bif (pre_rM_Acc [(PK [.int .u16 (num (x19.getD 7 undef)), (x19.getD 8 undef)])]) then
   (let x20 := F_fM_Acc (PK [.int .u16 (num (x18.getD 7 undef)), (x18.getD 8 undef)])
   let x21 := F_rM_Acc (PK [.int .u16 (num (x19.getD 7 undef)), (x19.getD 8 undef)])
   [.int .i64 0, .bool (((x20.1 == x21.1) && ((x20.2.1 == x21.2.1) && (x20.2.2.1 == x21.2.2.1))) && ((x20.2.2.2.1 == x21.2.2.2.1) && ((x20.2.2.2.2.1 == x21.2.2.2.2.1) && (x20.2.2.2.2.2 == x21.2.2.2.2.2)))), .int .u16 m, L, .int .u16 m, L])
  else
   ([]))
 else
  ([])) := by
 rw [clone_eq g.ok, clone_id g, drawF g hm p hs hr, drawR g hm p hs hr]
 obtain ⟨x0, x1, x2, x3, x4, e, L', h, gl⟩ := draw_good (q0 := q0) (q4 := q4) (o := o) (k := k) g hm p hs hr
 have p5 : pre_fM_Acc [PK [.int .u16 m, L']] = true := gl.ok
 have p6 : pre_rM_Acc [PK [.int .u16 m, L']] = true := gl.ok
 rw [h]
 refine ⟨L, ?_, g⟩
 simp only [List.getD_cons_succ, List.getD_cons_zero, num_int, p5, p6, accF gl, accR gl, cond_true, beq_self_eq_true, Bool.and_self]
theorem opR (p1 p2 p3 p4 p5 p6 p7 p8 p9 p10 p11 : Int) (b fr : Bool) {m : Int} (hm : Is16 m) : Is16 (F_gen_Op p1 p2 p3 p4 p5 p6 p7 p8 p9 p10 p11 b 3 0 0 3 3 fr m).2.2.2.2.2.2.2.1 := by
 have h := (gOp p1 p2 p3 p4 p5 p6 p7 p8 p9 p10 p11 b 3 0 0 3 3 fr hm).2.1
 exact ⟨h.1, by have := hm.2; omega⟩
set_option maxHeartbeats 4000000 in
theorem stepV {p0 p1 p2 p3 p4 p5 p6 p7 p8 p9 p10 p11 p12 p13 p14 p15 p16 p17 p18 p19 p20 p21 p22 m : Int} {fr : Bool} {L : Value} (g : Good L) (hm : m = 255 ∨ m = 65535) (ps : P16 p18 p19 p20 p21 p22) :
 StepP m (LF_law22_step [.int .i64 p0, .int .i64 p1, .int .i64 p2, .int .i64 p3, .int .i64 p4, .int .i64 p5, .int .i64 p6, .int .i64 p7, .int .i64 p8, .int .i64 p9, .int .i64 p10, .int .i64 p11, .int .i64 p12, .int .i64 p13, .int .i64 p14, .int .i64 p15, .int .i64 p16, .int .i64 p17, .int .u16 p18, .int .u16 p19, .int .u16 p20, .int .u16 p21, .int .u16 p22, .int .u16 m, .bool fr, .int .u16 m, L, .int .u16 m, L]) := by
 have m1 := m16 hm
 have hr := fun b => opR p1 p2 p3 p4 p5 p6 p7 p8 p9 p10 p11 b fr m1
 have hx := (gPixelV p12 p13 p14 p15 p16 m1.1 m1.2).p16 m1.2
 have s1 : Is16 65535 := ⟨by decide, by decide⟩
 have s2 : Is16 (F_gen_Sample p17 m) := by have h := gSample_le p17 m1; exact ⟨h.1, by have := m1.2; omega⟩
 have gc : Good (F_slices_Clone L) := by rw [clone_eq g.ok, clone_id g]; exact g
 have gn : Good (CT NILV L) := by rw [clone_id g]; exact g
 have kC : pre_slices_Clone [L] = true := g.ok
 have kR := lenOK.clone g.ok
 rw [LF_law22_step_eq]
 unfold OUT_law22_step
 refine bifP (p := StepP m) (fun _ => ?_) (fun _ => ?_)
 ·refine bifP (p := StepP m) (fun _ => bifP (p := StepP m) (fun _ => bifP (p := StepP m) (fun _ => pushP g (hr _)) (fun h => bool_no g.ok h)) (fun h => bool_no g.ok h)) (fun _ => ?_)
  refine bifP (p := StepP m) (fun _ => bifP (p := StepP m) (fun _ => bifP (p := StepP m) (fun _ => pushP g (hr _)) (fun h => bool_no g.ok h)) (fun h => bool_no g.ok h)) (fun _ => ?_)
  refine bifP (p := StepP m) (fun _ => bifP (p := StepP m) (fun _ => bifP (p := StepP m) (fun _ => popP g hm s1) (fun h => bool_no g.ok h)) (fun h => bool_no g.ok h)) (fun _ => ?_)
  refine bifP (p := StepP m) (fun _ => bifP (p := StepP m) (fun _ => bifP (p := StepP m) (fun _ => popP g hm s1) (fun h => bool_no g.ok h)) (fun h => bool_no g.ok h)) (fun _ => ?_)
  refine bifP (p := StepP m) (fun _ => bifP (p := StepP m) (fun _ => bifP (p := StepP m) (fun _ => drawP g hm ps s1 (hr _)) (fun h => bool_no g.ok h)) (fun h => bool_no g.ok h)) (fun _ => ?_)
  refine bifP (p := StepP m) (fun _ => bifP (p := StepP m) (fun _ => bifP (p := StepP m) (fun _ => bifP (p := StepP m) (fun _ => bifP (p := StepP m) (fun _ => forkP g hm hx s1 (hr _)) (fun h => bool_no gn.ok h)) (fun h => bool_no gc.ok h)) (fun h => bool_no kR h)) (fun h => bool_no kC h)) (fun _ => ?_)
  exact bifP (p := StepP m) (fun _ => bifP (p := StepP m) (fun _ => drawP g hm hx s1 (hr _)) (fun h => bool_no g.ok h)) (fun h => bool_no g.ok h)
 ·refine bifP (p := StepP m) (fun _ => bifP (p := StepP m) (fun _ => bifP (p := StepP m) (fun _ => pushP g (hr _)) (fun h => bool_no g.ok h)) (fun h => bool_no g.ok h)) (fun _ => ?_)
  refine bifP (p := StepP m) (fun _ => bifP (p := StepP m) (fun _ => bifP (p := StepP m) (fun _ => pushP g (hr _)) (fun h => bool_no g.ok h)) (fun h => bool_no g.ok h)) (fun _ => ?_)
  refine bifP (p := StepP m) (fun _ => bifP (p := StepP m) (fun _ => bifP (p := StepP m) (fun _ => popP g hm s2) (fun h => bool_no g.ok h)) (fun h => bool_no g.ok h)) (fun _ => ?_)
  refine bifP (p := StepP m) (fun _ => bifP (p := StepP m) (fun _ => bifP (p := StepP m) (fun _ => popP g hm s2) (fun h => bool_no g.ok h)) (fun h => bool_no g.ok h)) (fun _ => ?_)
  refine bifP (p := StepP m) (fun _ => bifP (p := StepP m) (fun _ => bifP (p := StepP m) (fun _ => drawP g hm ps s2 (hr _)) (fun h => bool_no g.ok h)) (fun h => bool_no g.ok h)) (fun _ => ?_)
  refine bifP (p := StepP m) (fun _ => bifP (p := StepP m) (fun _ => bifP (p := StepP m) (fun _ => bifP (p := StepP m) (fun _ => bifP (p := StepP m) (fun _ => forkP g hm hx s2 (hr _)) (fun h => bool_no gn.ok h)) (fun h => bool_no gc.ok h)) (fun h => bool_no kR h)) (fun h => bool_no kC h)) (fun _ => ?_)
  exact bifP (p := StepP m) (fun _ => bifP (p := StepP m) (fun _ => drawP g hm hx s2 (hr _)) (fun h => bool_no g.ok h)) (fun h => bool_no g.ok h)
abbrev RAW : List SK := [.i .i64, .i .i64, .i .i64, .i .i64, .i .i64, .i .i64, .i .i64, .i .i64, .i .i64, .i .i64, .i .i64, .i .i64, .i .i64, .i .i64, .i .i64, .i .i64, .i .i64, .i .i64, .i .u16, .i .u16, .i .u16, .i .u16, .i .u16]
theorem kc16 {κs : List SK} {l : Value} (h : inKind (.l κs) l) {i : Int} (h0 : 0 ≤ i) (h1 : i < LN l) {j : Nat} (hj : κs[j]? = some (.i .u16)) : Is16 (num (CV (IX l i) j)) := by
 obtain ⟨cs, e, k⟩ := elem_kinds h h0 h1
 obtain ⟨v, hv, q⟩ := k.get hj
 obtain ⟨n, rfl, n0, n1⟩ := (inKind_pl (κ := .i .u16) rfl).1 q
 rw [e]
 unfold CV
 rw [els_toArray, List.getD, hv]
 exact ⟨n0, n1⟩
theorem raw_at {l : Value} (h : inKind (.l RAW) l) {i : Int} (h0 : 0 ≤ i) (h1 : i < LN l) : P16 (num (CV (IX l i) 18)) (num (CV (IX l i) 19)) (num (CV (IX l i) 20)) (num (CV (IX l i) 21)) (num (CV (IX l i) 22)) :=
 ⟨kc16 h h0 h1 rfl, kc16 h h0 h1 rfl, kc16 h h0 h1 rfl, kc16 h h0 h1 rfl, kc16 h h0 h1 rfl⟩
theorem stepRaw {e : Value} {fr : Bool} {m : Int} {L : Value} (g : Good L) (hm : m = 255 ∨ m = 65535) (ps : P16 (num (CV e 18)) (num (CV e 19)) (num (CV e 20)) (num (CV e 21)) (num (CV e 22))) :
 StepP m (LF_law22_step [.int .i64 (num (CV e 0)), .int .i64 (num (CV e 1)), .int .i64 (num (CV e 2)), .int .i64 (num (CV e 3)), .int .i64 (num (CV e 4)), .int .i64 (num (CV e 5)), .int .i64 (num (CV e 6)), .int .i64 (num (CV e 7)), .int .i64 (num (CV e 8)), .int .i64 (num (CV e 9)), .int .i64 (num (CV e 10)), .int .i64 (num (CV e 11)), .int .i64 (num (CV e 12)), .int .i64 (num (CV e 13)), .int .i64 (num (CV e 14)), .int .i64 (num (CV e 15)), .int .i64 (num (CV e 16)), .int .i64 (num (CV e 17)), .int .u16 (num (CV e 18)), .int .u16 (num (CV e 19)), .int .u16 (num (CV e 20)), .int .u16 (num (CV e 21)), .int .u16 (num (CV e 22)), .int .u16 m, .bool fr, .int .u16 m, L, .int .u16 m, L]) := stepV g hm ps
theorem pre_step {L : Value} (g : Good L) (x0 x1 x2 x3 x4 x5 x6 x7 x8 x9 x10 x11 x12 x13 x14 x15 x16 x17 x18 x19 x20 x21 x22 x23 x24 x25 y : Value) : pre_law22_step [x0, x1, x2, x3, x4, x5, x6, x7, x8, x9, x10, x11, x12, x13, x14, x15, x16, x17, x18, x19, x20, x21, x22, x23, x24, x25, L, y, L] = true := by
 show (lenOK L && lenOK L) = true
 rw [g.ok]
 rfl
theorem pre_same {L : Value} (g : Good L) (m : Int) : pre_law22_same [PK [.int .u16 m, L], PK [.int .u16 m, L]] = true := by
 show (lenOK L && lenOK L) = true
 rw [g.ok]
 rfl
def OneP (a m1 L m2 K : Value) : Prop := ∃ m : Int, (m = 255 ∨ m = 65535) ∧ a = .int .u16 m ∧ m1 = .int .u16 m ∧ m2 = .int .u16 m ∧ L = K ∧ Good L
noncomputable def oneB (a m1 L m2 K : Value) : Bool := @decide (OneP a m1 L m2 K) (Classical.propDecidable _)
theorem oneB_iff {a m1 L m2 K : Value} : oneB a m1 L m2 K = true ↔ OneP a m1 L m2 K := by
 unfold oneB
 exact @decide_eq_true_iff _ (Classical.propDecidable _)
theorem oneB_of {m : Int} (hm : m = 255 ∨ m = 65535) {L : Value} (g : Good L) : oneB (.int .u16 m) (.int .u16 m) L (.int .u16 m) L = true := oneB_iff.2 ⟨m, hm, rfl, rfl, rfl, rfl, g⟩
end Go.Proofs.YtdioaiepkhepaaaGreatDoor
