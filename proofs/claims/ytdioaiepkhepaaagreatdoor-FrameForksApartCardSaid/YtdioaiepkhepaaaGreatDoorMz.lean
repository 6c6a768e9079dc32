/- Machines and the document's machines: each call does the same to both. No condition. -/
import Derived.Test.YtdioaiepkhepaaaGreatDoorSm22z
import Derived.Test.YtdioaiepkhepaaaGreatDoorLaw22
namespace Go.Proofs.YtdioaiepkhepaaaGreatDoor
set_option maxRecDepth 100000
open Go.RowKit
section
variable {kn : Bool} {o k m s0 s1 s2 a f c0 c1 c2 A own F b0 b1 b2 b g : Int} (m1 : Is16 m) (s : P16 s0 s1 s2 a f) (c : A16 c0 c1 c2 A own F) (d : P16 b0 b1 b2 b g)
include m1 s c d
theorem steps22 : F_group_Step kn o k m s0 s1 s2 a f c0 c1 c2 A own F b0 b1 b2 b g = F_r6_Step kn o k m s0 s1 s2 a f c0 c1 c2 A own F b0 b1 b2 b g := by
 rw [pStep m1 s c d, rStep m1 s c d]
theorem step_rng : A16 (F_group_Step kn o k m s0 s1 s2 a f c0 c1 c2 A own F b0 b1 b2 b g).1 (F_group_Step kn o k m s0 s1 s2 a f c0 c1 c2 A own F b0 b1 b2 b g).2.1 (F_group_Step kn o k m s0 s1 s2 a f c0 c1 c2 A own F b0 b1 b2 b g).2.2.1 (F_group_Step kn o k m s0 s1 s2 a f c0 c1 c2 A own F b0 b1 b2 b g).2.2.2.1 (F_group_Step kn o k m s0 s1 s2 a f c0 c1 c2 A own F b0 b1 b2 b g).2.2.2.2.1 (F_group_Step kn o k m s0 s1 s2 a f c0 c1 c2 A own F b0 b1 b2 b g).2.2.2.2.2.1 := by
 rw [pStep m1 s c d]
 have up : ∀ {x : Int}, 0 ≤ x ∧ x ≤ m → Is16 x := fun h => ⟨h.1, by have := m1.2; omega⟩
 have z : Is16 0 := ⟨by decide, by decide⟩
 by_cases h : StV kn o k m s0 s1 s2 a f c0 c1 c2 A own F b0 b1 b2 b g
 ·rw [if_pos h]
  obtain ⟨ho, hk, ⟨h1, h2, h3, h4, h5, h6, h7, h8, ⟨g1, g2, g3, g4, g5⟩, h10⟩, ⟨u0, u1, u2, af, fm⟩, _⟩ := h
  have m0 : 1 ≤ m := by omega
  have am : a ≤ m := by omega
  have sh := fun o' => shapeZ_bd (o := o') s.f c.f m1 m0 fm h8
  cases kn with
  | true =>
   unfold stepZ
   rw [if_pos rfl]
   exact ⟨up (kHalf_bd s.c0 s.a s.f c.c0 d.c0 d.a ⟨hk, u0, g1, h4, af, fm, by omega, by omega⟩), up (kHalf_bd s.c1 s.a s.f c.c1 d.c1 d.a ⟨hk, u1, g2, h4, af, fm, by omega, by omega⟩), up (kHalf_bd s.c2 s.a s.f c.c2 d.c2 d.a ⟨hk, u2, g3, h4, af, fm, by omega, by omega⟩), up (kAlpha_bd s.a s.f c.a d.a ⟨h4, af, fm, by omega, h7⟩), up (kAlpha_bd s.a s.f c.own z ⟨h4, af, fm, by omega, by omega⟩), up (sh 4)⟩
  | false =>
   unfold stepZ
   rw [if_neg (by decide)]
   exact ⟨up (mixH_bd m1 s.c0 s.a c.c0 c.a ⟨ho, hk, u0, h1, am, h7, h4⟩), up (mixH_bd m1 s.c1 s.a c.c1 c.a ⟨ho, hk, u1, h2, am, h7, h4⟩), up (mixH_bd m1 s.c2 s.a c.c2 c.a ⟨ho, hk, u2, h3, am, h7, h4⟩), up (pAlpha s.a c.a m1 m0 ⟨ho, am, h7⟩).2, up (pAlpha s.a c.own m1 m0 ⟨ho, am, by omega⟩).2, up (sh o)⟩
 ·rw [if_neg h]
  exact ⟨z, z, z, z, z, z⟩
end
section
variable {m c0 c1 c2 A own F b0 b1 b2 b g : Int} (m1 : Is16 m) (c : A16 c0 c1 c2 A own F) (d : P16 b0 b1 b2 b g)
include m1 c d
theorem results22 : F_group_Result c0 c1 c2 A own F b0 b1 b2 b g m = F_r6_Result c0 c1 c2 A own F b0 b1 b2 b g m := by
 rw [pResult m1 c d, rResult m1 c d]
theorem result_v : (∃ x0 x1 x2 x3 x4, F_group_Result c0 c1 c2 A own F b0 b1 b2 b g m = (x0, x1, x2, x3, x4, true) ∧ PV x0 x1 x2 x3 x4 m) ∨ F_group_Result c0 c1 c2 A own F b0 b1 b2 b g m = (0, 0, 0, 0, 0, false) := by
 rw [pResult m1 c d]
 by_cases h : AV c0 c1 c2 A own F b0 b1 b2 b g m
 ·rw [if_pos h]
  obtain ⟨h1, h2, h3, h4, h5, h6, h7, h8, _, _⟩ := h
  have m0 : 1 ≤ m := by omega
  have om : own ≤ m := by omega
  have z0 := remZ_nn m0 m1 c.c0 (by omega) d.c0 c.own om
  have z1 := remZ_nn m0 m1 c.c1 (by omega) d.c1 c.own om
  have z2 := remZ_nn m0 m1 c.c2 (by omega) d.c2 c.own om
  exact .inl ⟨_, _, _, _, _, rfl, ⟨z0, z1, z2, remZ_bd c.own z0, remZ_bd c.own z1, remZ_bd c.own z2, h6, h8⟩⟩
 ·rw [if_neg h]
  exact .inr rfl
end
def accC (e : Value) : List Value := [.int .u16 (num (CV e 12)), .int .u16 (num (CV e 13)), .int .u16 (num (CV e 14)), .int .u16 (num (CV e 15)), .int .u16 (num (CV e 16)), .int .u16 (num (CV e 17))]
structure LevE (e : Value) : Prop where
 eq : els e = opsC e ++ (accC e ++ bckC e)
 ag : e = .agg (els e).toArray
 ac : A16 (num (CV e 12)) (num (CV e 13)) (num (CV e 14)) (num (CV e 15)) (num (CV e 16)) (num (CV e 17))
 bk : P16 (num (CV e 18)) (num (CV e 19)) (num (CV e 20)) (num (CV e 21)) (num (CV e 22))
 op : Is16 (num (CV e 7))
structure Good (L : Value) : Prop where
 ag : L = .agg (els L).toArray
 lv : ∀ e ∈ els L, LevE e
 l : 1 ≤ LN L
 u : LN L ≤ 65
theorem Good.ok {L : Value} (g : Good L) : lenOK L = true := lenOK.of g.l (by have := g.u; omega)
theorem ix_mem {L : Value} {i : Int} (h0 : 0 ≤ i) (h1 : i < LN L) : IX L i ∈ els L := by
 have hlt : i.toNat < (els L).length := by rw [LN] at h1; omega
 rw [IX, List.getD, List.getElem?_eq_getElem hlt]
 exact List.getElem_mem hlt
theorem Good.lev {L : Value} (g : Good L) : LevE (IX L (LN L - 1)) := g.lv _ (ix_mem (by have := g.l; omega) (by omega))
theorem putV_mid (a b b' c : List Value) (h : b.length = b'.length) : putV (a ++ (b ++ c)) a.length b' = a ++ (b' ++ c) := by
 apply List.ext_getElem?
 intro p
 rw [putV_get]
 by_cases h1 : a.length ≤ p ∧ p < a.length + b'.length
 ·rw [if_pos h1, if_pos (by simp only [List.length_append]; omega), List.getElem?_append_right h1.1, List.getElem?_append_left (by omega)]
 ·rw [if_neg h1]
  by_cases h2 : p < a.length
  ·rw [List.getElem?_append_left h2, List.getElem?_append_left h2]
  ·rw [List.getElem?_append_right (by omega), List.getElem?_append_right (by omega), List.getElem?_append_right (by omega), List.getElem?_append_right (by omega), h]
theorem putV_all (a b : List Value) (h : a.length = b.length) : putV a 0 b = b := by
 have := putV_mid [] a b [] h
 simpa using this
theorem put_acc (e : Value) {c n : List Value} (hc : c.length = n.length) : putV (opsC e ++ (c ++ bckC e)) 12 n = opsC e ++ (n ++ bckC e) := putV_mid (opsC e) c n (bckC e) hc
theorem st_12 {L : Value} {i : Int} (h : LevE (IX L i)) (a0 a1 a2 a3 a4 a5 : Value) : ST 0 L i (opsC (IX L i) ++ ([a0, a1, a2, a3, a4, a5] ++ bckC (IX L i))) = ST 12 L i [a0, a1, a2, a3, a4, a5] := by
 unfold ST
 rw [show (els L).getD i.toNat undef = IX L i from rfl, h.eq, put_acc (IX L i) (c := accC (IX L i)) (n := [a0, a1, a2, a3, a4, a5]) (by rfl), putV_all _ _ (by rfl)]
theorem els_ST (off : Nat) (L : Value) (i : Int) (cs : List Value) : els (ST off L i cs) = (els L).set i.toNat (.agg (putV (els (IX L i)) off cs).toArray) := els_toArray _
theorem Good.st {L : Value} (g : Good L) {x : Int × Int × Int × Int × Int × Int × Bool} (h : A16 x.1 x.2.1 x.2.2.1 x.2.2.2.1 x.2.2.2.2.1 x.2.2.2.2.2.1) : Good (ST 12 L (LN L - 1) (acC x)) := by
 refine ⟨?_, fun e he => ?_, by rw [LN_ST]; exact g.l, by rw [LN_ST]; exact g.u⟩
 ·rw [els_ST]
  rfl
 ·rw [els_ST] at he
  rcases List.mem_or_eq_of_mem_set he with he | rfl
  ·exact g.lv e he
  ·have q := g.lev
   generalize IX L (LN L - 1) = d at q
   rw [q.eq, put_acc d (c := accC d) (n := acC x) (by rfl)]
   exact ⟨rfl, rfl, h, q.bk, q.op⟩
theorem step_good {L : Value} (g : Good L) {m : Int} (m1 : Is16 m) {x : Int × Int × Int × Int × Int × Bool} (p : P16 x.1 x.2.1 x.2.2.1 x.2.2.2.1 x.2.2.2.2.1) (o k : Int) : Good (ST 12 L (LN L - 1) (acC (stepL o k m x (IX L (LN L - 1))))) :=
 g.st (step_rng m1 p g.lev.ac g.lev.bk)
theorem TK_ST {off : Nat} {L : Value} {i n : Int} {cs : List Value} (h0 : 0 ≤ i) (h1 : i < n) : TK (ST off L i cs) n = ST off (TK L n) i cs := by
 have hi : i.toNat < n.toNat := by omega
 unfold TK ST
 simp only [els_toArray]
 rw [List.take_set]
 congr 3
 simp only [List.getD, List.getElem?_take, if_pos hi]
theorem clone_id {L : Value} (g : Good L) : CT NILV L = L := by
 unfold CT
 conv => rhs; rw [g.ag]
 rfl
theorem Good.tk {L : Value} (g : Good L) (h : LN L - 1 ≠ 0) : Good (TK L (LN L - 1)) := by
 have h1 := g.l
 have h2 := g.u
 have e : els (TK L (LN L - 1)) = (els L).take (LN L - 1).toNat := els_toArray _
 exact ⟨by rw [e]; rfl, fun x hx => g.lv x (by rw [e] at hx; exact List.mem_of_mem_take hx), by rw [LN_TK (by omega) (by omega)]; omega, by rw [LN_TK (by omega) (by omega)]; omega⟩
theorem Good.snoc {L : Value} (g : Good L) (h : LN L < 65) {cs : List Value} (hc : LevE (.agg cs.toArray)) : Good (SN L cs) := by
 refine ⟨?_, fun e he => ?_, by rw [LN_SN]; have := g.l; omega, by rw [LN_SN]; omega⟩
 ·rw [els_SN]
  rfl
 ·rw [els_SN] at he
  rcases List.mem_append.1 he with he | he
  ·exact g.lv e he
  ·rw [List.mem_singleton] at he
   rw [he]
   exact hc
theorem base_good : Good (LSV 23 1 baseC) := by
 refine ⟨rfl, fun e he => ?_, by rw [LN_LSV]; decide, by rw [LN_LSV]; decide⟩
 have : e = .agg baseC.toArray := by
  have q : els (LSV 23 1 baseC) = [.agg baseC.toArray] := rfl
  rw [q, List.mem_singleton] at he
  exact he
 subst this
 have z : Is16 0 := ⟨by decide, by decide⟩
 exact ⟨rfl, rfl, ⟨z, z, z, z, z, z⟩, ⟨z, z, z, z, z⟩, z⟩
theorem m16 {m : Int} (hm : m = 255 ∨ m = 65535) : Is16 m := ⟨by omega, by omega⟩
theorem rtop {m : Int} {L : Value} (g : Good L) : F_rM_top (PK [.int .u16 m, L]) = LN L - 1 := by rw [F_rM_top_eq]; exact lenOK.sub g.ok
theorem rdep {m : Int} {L : Value} (g : Good L) : F_rM_Depth (PK [.int .u16 m, L]) = LN L - 1 := by rw [F_rM_Depth_eq]; exact lenOK.sub g.ok
theorem fdep {m : Int} {L : Value} (g : Good L) : F_fM_Depth (PK [.int .u16 m, L]) = LN L - 1 := by rw [F_fM_Depth_eq]; exact lenOK.sub g.ok
theorem inb_last {L : Value} (g : Good L) : INB L (LN L - 1) = true := INB_of (by have := g.l; omega) (by omega)
section
variable {q0 q1 q2 q3 q4 q5 q6 r o k : Int} {b0 b1 : Bool} {m : Int} {L : Value} (g : Good L) (hm : m = 255 ∨ m = 65535)
include g hm
set_option maxHeartbeats 2000000 in
theorem rpaintV {x0 x1 x2 x3 x4 : Int} (p : P16 x0 x1 x2 x3 x4) : LF_rM_paint [.int .i64 q0, .int .i64 q1, .int .i64 q2, .int .i64 q3, .int .i64 q4, .int .i64 q5, .int .i64 q6, .int .u16 r, .int .i64 o, .int .i64 k, .bool b0, .bool b1, .int .u16 x0, .int .u16 x1, .int .u16 x2, .int .u16 x3, .int .u16 x4, .int .u16 m, L] =
 bif (stepL o k m (x0, x1, x2, x3, x4, true) (IX L (LN L - 1))).2.2.2.2.2.2 then [.int .i64 0, .bool true, .int .u16 m, ST 12 L (LN L - 1) (acC (stepL o k m (x0, x1, x2, x3, x4, true) (IX L (LN L - 1))))] else [.int .i64 0, .bool false, .int .u16 m, L] := by
 have hpre : pre_rM_top [(PK [.int .u16 m, L])] = true := rfl
 have hi := inb_last g
 have st := steps22 (kn := tru (CV (IX L (LN L - 1)) 11)) (o := o) (k := k) (m16 hm) p g.lev.ac g.lev.bk
 rw [LF_rM_paint_eq]
 unfold OUT_rM_paint
 simp only [hpre, rtop g, hi, cond_true, ← st]
 unfold stepL
 dsimp only
 generalize F_group_Step (tru (CV (IX L (LN L - 1)) 11)) o k m x0 x1 x2 x3 x4 (num (CV (IX L (LN L - 1)) 12)) (num (CV (IX L (LN L - 1)) 13)) (num (CV (IX L (LN L - 1)) 14)) (num (CV (IX L (LN L - 1)) 15)) (num (CV (IX L (LN L - 1)) 16)) (num (CV (IX L (LN L - 1)) 17)) (num (CV (IX L (LN L - 1)) 18)) (num (CV (IX L (LN L - 1)) 19)) (num (CV (IX L (LN L - 1)) 20)) (num (CV (IX L (LN L - 1)) 21)) (num (CV (IX L (LN L - 1)) 22)) = y
 obtain ⟨y0, y1, y2, y3, y4, y5, y6⟩ := y
 cases y6 <;> rfl
end
theorem scaledR (q0 q1 q2 q3 q4 q5 q6 o q8 q9 : Int) (q10 q11 : Bool) (c0 c1 c2 a f k m : Int) : F_r2_scaled q0 q1 q2 q3 q4 q5 q6 o q8 q9 q10 q11 c0 c1 c2 a f k m = F_r6_Both c0 c1 c2 a f (if q4 = 0 then m else k) o m := by
 rw [F_r2_scaled_eq]
 by_cases h : q4 = 0
 ·rw [if_pos h, show (q4 != 0) = false from by rw [h]; rfl, cond_false]
 ·rw [if_neg h, show (q4 != 0) = true from bne_iff_ne.2 h, cond_true]
theorem both_v {c0 c1 c2 a f k o m : Int} (p : P16 c0 c1 c2 a f) (hm : m = 255 ∨ m = 65535) (hk : Is16 k) (ho : Is16 o) :
 (∃ x0 x1 x2 x3 x4, F_r6_Both c0 c1 c2 a f k o m = (x0, x1, x2, x3, x4, true) ∧ PV x0 x1 x2 x3 x4 m ∧ k ≤ m ∧ o ≤ m) ∨ (F_r6_Both c0 c1 c2 a f k o m = (0, 0, 0, 0, 0, false) ∧ ¬ (VP c0 c1 c2 a f m ∧ k ≤ m ∧ o ≤ m)) := by
 rw [bothR p hk ho]
 by_cases h : (m = 255 ∨ m = 65535) ∧ VP c0 c1 c2 a f m ∧ k ≤ m ∧ o ≤ m
 ·rw [if_pos h]
  have q := sclV_pv (show 1 ≤ m by omega) (p.pv h.2.1) hk.1 h.2.2.1
  have q2 := sclV_pv (show 1 ≤ m by omega) q ho.1 h.2.2.2
  exact .inl ⟨_, _, _, _, _, rfl, q2, h.2.2.1, h.2.2.2⟩
 ·rw [if_neg h]
  exact .inr ⟨rfl, fun e => h ⟨hm, e⟩⟩
noncomputable def drawY (q0 q4 o k r m : Int) (c0 c1 c2 a f s : Int) (L : Value) : List Value :=
 if q0 ≠ 1 then [.int .i64 0, .int .u16 0, .int .u16 0, .int .u16 0, .int .u16 0, .int .u16 0, .int .i64 20, .int .u16 m, L] else
 let x := F_r6_Both c0 c1 c2 a f (if q4 = 0 then m else s) r m
 bif !x.2.2.2.2.2 then [.int .i64 0, .int .u16 0, .int .u16 0, .int .u16 0, .int .u16 0, .int .u16 0, .int .i64 20, .int .u16 m, L] else
 let y := stepL o k m x (IX L (LN L - 1))
 bif !y.2.2.2.2.2.2 then [.int .i64 0, .int .u16 0, .int .u16 0, .int .u16 0, .int .u16 0, .int .u16 0, .int .i64 16, .int .u16 m, L] else
 [.int .i64 0, .int .u16 x.1, .int .u16 x.2.1, .int .u16 x.2.2.1, .int .u16 x.2.2.2.1, .int .u16 x.2.2.2.2.1, .int .i64 0, .int .u16 m, ST 12 L (LN L - 1) (acC y)]
section
variable {q0 q1 q2 q3 q4 q5 q6 r o k : Int} {b0 b1 : Bool} {c0 c1 c2 a f s m : Int} {L : Value} (g : Good L) (hm : m = 255 ∨ m = 65535) (p : P16 c0 c1 c2 a f) (hs : Is16 s) (hr : Is16 r)
include g hm p hs hr
set_option maxHeartbeats 2000000 in
theorem drawF : LF_fM_Draw [.int .i64 q0, .int .i64 q1, .int .i64 q2, .int .i64 q3, .int .i64 q4, .int .i64 q5, .int .i64 q6, .int .u16 r, .int .i64 o, .int .i64 k, .bool b0, .bool b1, .int .u16 c0, .int .u16 c1, .int .u16 c2, .int .u16 a, .int .u16 f, .int .u16 s, .int .u16 m, L] = drawY q0 q4 o k r m c0 c1 c2 a f s L := by
 rw [drawV g.ok p hm hs hr]
 unfold drawZ drawY
 have hk : Is16 (if q4 = 0 then m else s) := by split; exact m16 hm; exact hs
 by_cases h0 : q0 = 1
 ·rw [if_neg (show ¬ q0 ≠ 1 from fun e => e h0)]
  by_cases hv : VP c0 c1 c2 a f m
  ·rw [if_neg (show ¬ (q0 ≠ 1 ∨ ¬ VP c0 c1 c2 a f m) from fun h => h.elim (fun e => e h0) (fun e => e hv))]
   have q : ∀ y : Int × Int × Int × Int × Int × Int × Bool, ST 0 L (LN L - 1) (opsC (IX L (LN L - 1)) ++ (acC y ++ bckC (IX L (LN L - 1)))) = ST 12 L (LN L - 1) (acC y) := fun y => st_12 g.lev _ _ _ _ _ _
   simp only [q]
  ·rw [if_pos (.inr hv)]
   rcases both_v p hm hk hr with ⟨x0, x1, x2, x3, x4, e, v, _, _⟩ | ⟨e, _⟩
   ·exfalso
    rw [bothR p hk hr, if_neg (fun h => hv h.2.1)] at e
    simp at e
   ·rw [e]
    rfl
 ·rw [if_pos (.inl h0), if_pos h0]
set_option maxHeartbeats 2000000 in
theorem drawR : LF_rM_Draw [.int .i64 q0, .int .i64 q1, .int .i64 q2, .int .i64 q3, .int .i64 q4, .int .i64 q5, .int .i64 q6, .int .u16 r, .int .i64 o, .int .i64 k, .bool b0, .bool b1, .int .u16 c0, .int .u16 c1, .int .u16 c2, .int .u16 a, .int .u16 f, .int .u16 s, .int .u16 m, L] = drawY q0 q4 o k r m c0 c1 c2 a f s L := by
 have hp : ∀ x0 x1 x2 x3 x4 x5 x6 x7 x8 x9 x10 x11 x12 x13 x14 x15 x16 x17, pre_rM_paint [x0, x1, x2, x3, x4, x5, x6, x7, x8, x9, x10, x11, x12, x13, x14, x15, x16, x17, L] = true := fun _ _ _ _ _ _ _ _ _ _ _ _ _ _ _ _ _ _ => g.ok
 have hk : Is16 (if q4 = 0 then m else s) := by split; exact m16 hm; exact hs
 rw [LF_rM_Draw_eq]
 unfold OUT_rM_Draw drawY
 by_cases h0 : q0 = 1
 ·rw [if_neg (show ¬ q0 ≠ 1 from fun e => e h0), show (q0 != 1) = false from by rw [h0]; rfl, cond_false]
  simp only [scaledR, hp, cond_true]
  rcases both_v p hm hk hr with ⟨x0, x1, x2, x3, x4, e, v, _, _⟩ | ⟨e, _⟩
  ·rw [e]
   simp only [Bool.not_true, cond_false]
   rw [rpaintV g hm (v.p16 (m16 hm).2)]
   generalize stepL o k m (x0, x1, x2, x3, x4, true) (IX L (LN L - 1)) = y
   obtain ⟨y0, y1, y2, y3, y4, y5, y6⟩ := y
   cases y6 <;> rfl
  ·simp only [e, Bool.not_false, cond_true]
 ·rw [if_pos h0, show (q0 != 1) = true from bne_iff_ne.2 h0, cond_true]
set_option maxHeartbeats 2000000 in
theorem draw_good : ∃ x0 x1 x2 x3 x4 e L', drawY q0 q4 o k r m c0 c1 c2 a f s L = [.int .i64 0, .int .u16 x0, .int .u16 x1, .int .u16 x2, .int .u16 x3, .int .u16 x4, .int .i64 e, .int .u16 m, L'] ∧ Good L' := by
 have hk : Is16 (if q4 = 0 then m else s) := by split; exact m16 hm; exact hs
 unfold drawY
 by_cases h0 : q0 = 1
 ·rw [if_neg (show ¬ q0 ≠ 1 from fun e => e h0)]
  rcases both_v p hm hk hr with ⟨x0, x1, x2, x3, x4, e, v, _, _⟩ | ⟨e, _⟩
  ·rw [e]
   have gd := step_good g (m16 hm) (x := (x0, x1, x2, x3, x4, true)) (v.p16 (m16 hm).2) o k
   dsimp only
   simp only [Bool.not_true, cond_false]
   generalize stepL o k m (x0, x1, x2, x3, x4, true) (IX L (LN L - 1)) = y at gd
   obtain ⟨y0, y1, y2, y3, y4, y5, y6⟩ := y
   cases y6 with
   | false => exact ⟨_, _, _, _, _, _, _, rfl, g⟩
   | true => exact ⟨_, _, _, _, _, _, _, rfl, gd⟩
  ·rw [e]
   exact ⟨_, _, _, _, _, _, _, rfl, g⟩
 ·rw [if_pos h0]
  exact ⟨_, _, _, _, _, _, _, rfl, g⟩
end
section
variable {q0 q1 q2 q3 q4 q5 q6 r o k : Int} {b0 b1 : Bool} {m : Int} {L : Value} (g : Good L)
include g
theorem topF : F_fM_top (PK [.int .u16 m, L]) = (num (CV (IX L (LN L - 1)) 0), num (CV (IX L (LN L - 1)) 1), num (CV (IX L (LN L - 1)) 2), num (CV (IX L (LN L - 1)) 3), num (CV (IX L (LN L - 1)) 4), num (CV (IX L (LN L - 1)) 5), num (CV (IX L (LN L - 1)) 6), num (CV (IX L (LN L - 1)) 7), num (CV (IX L (LN L - 1)) 8), num (CV (IX L (LN L - 1)) 9), tru (CV (IX L (LN L - 1)) 10), tru (CV (IX L (LN L - 1)) 11), num (CV (IX L (LN L - 1)) 12), num (CV (IX L (LN L - 1)) 13), num (CV (IX L (LN L - 1)) 14), num (CV (IX L (LN L - 1)) 15), num (CV (IX L (LN L - 1)) 16), num (CV (IX L (LN L - 1)) 17), num (CV (IX L (LN L - 1)) 18), num (CV (IX L (LN L - 1)) 19), num (CV (IX L (LN L - 1)) 20), num (CV (IX L (LN L - 1)) 21), num (CV (IX L (LN L - 1)) 22)) := by
 rw [F_fM_top_eq]
 have e : CV (PK [.int .u16 m, L]) 1 = L := rfl
 rw [e, lenOK.sub g.ok, inb_last g, cond_true]
noncomputable def begL (i : Bool) (e : Value) : Int × Int × Int × Int × Int × Int × Int × Int × Int × Int × Int :=
 F_group_Begin i (tru (CV e 11)) (num (CV e 12)) (num (CV e 13)) (num (CV e 14)) (num (CV e 15)) (num (CV e 16)) (num (CV e 17)) (num (CV e 18)) (num (CV e 19)) (num (CV e 20)) (num (CV e 21)) (num (CV e 22))
omit g in
theorem beg_rng {e : Value} (h : LevE e) (i : Bool) : A16 (begL i e).1 (begL i e).2.1 (begL i e).2.2.1 (begL i e).2.2.2.1 (begL i e).2.2.2.2.1 (begL i e).2.2.2.2.2.1 ∧ P16 (begL i e).2.2.2.2.2.2.1 (begL i e).2.2.2.2.2.2.2.1 (begL i e).2.2.2.2.2.2.2.2.1 (begL i e).2.2.2.2.2.2.2.2.2.1 (begL i e).2.2.2.2.2.2.2.2.2.2 := by
 have z : Is16 0 := ⟨by decide, by decide⟩
 obtain ⟨c0, c1, c2, c3, c4, c5⟩ := h.ac
 obtain ⟨d0, d1, d2, d3, d4⟩ := h.bk
 unfold begL
 rw [F_group_Begin_eq]
 cases i <;> cases tru (CV e 11) <;> (refine ⟨⟨?_, ?_, ?_, ?_, ?_, ?_⟩, ⟨?_, ?_, ?_, ?_, ?_⟩⟩ <;> first | exact z | exact c0 | exact c1 | exact c2 | exact c3 | exact c4 | exact c5 | exact d0 | exact d1 | exact d2 | exact d3 | exact d4)
def cellsP (q0 q1 q2 q3 q4 q5 q6 r o k : Int) (b0 b1 : Bool) (x : Int × Int × Int × Int × Int × Int × Int × Int × Int × Int × Int) : List Value := [.int .i64 q0, .int .i64 q1, .int .i64 q2, .int .i64 q3, .int .i64 q4, .int .i64 q5, .int .i64 q6, .int .u16 r, .int .i64 o, .int .i64 k, .bool b0, .bool b1, .int .u16 x.1, .int .u16 x.2.1, .int .u16 x.2.2.1, .int .u16 x.2.2.2.1, .int .u16 x.2.2.2.2.1, .int .u16 x.2.2.2.2.2.1, .int .u16 x.2.2.2.2.2.2.1, .int .u16 x.2.2.2.2.2.2.2.1, .int .u16 x.2.2.2.2.2.2.2.2.1, .int .u16 x.2.2.2.2.2.2.2.2.2.1, .int .u16 x.2.2.2.2.2.2.2.2.2.2]
noncomputable def pushY (q0 q1 q2 q3 q4 q5 q6 r o k : Int) (b0 b1 : Bool) (m : Int) (L : Value) : List Value :=
 if q0 ≠ 2 then [.int .i64 0, .int .i64 20, .int .u16 m, L] else
 if LN L ≥ 65 then [.int .i64 0, .int .i64 17, .int .u16 m, L] else
 [.int .i64 0, .int .i64 0, .int .u16 m, SN L (cellsP q0 q1 q2 q3 q4 q5 q6 r o k b0 b1 (begL b0 (IX L (LN L - 1))))]
theorem pushF : LF_fM_Push [.int .i64 q0, .int .i64 q1, .int .i64 q2, .int .i64 q3, .int .i64 q4, .int .i64 q5, .int .i64 q6, .int .u16 r, .int .i64 o, .int .i64 k, .bool b0, .bool b1, .int .u16 m, L] = pushY q0 q1 q2 q3 q4 q5 q6 r o k b0 b1 m L := by
 have hp : pre_fM_top [PK [.int .u16 m, L]] = true := g.ok
 have hq : ∀ vs, pre_fM_Depth vs = true := fun _ => rfl
 rw [LF_fM_Push_eq]
 unfold OUT_fM_Push pushY
 by_cases h0 : q0 = 2
 ·rw [if_neg (show ¬ q0 ≠ 2 from fun e => e h0), show (q0 != 2) = false from by rw [h0]; rfl, cond_false]
  simp only [hq, hp, fdep g, topF g, lenOK.push g.ok, cond_true]
  by_cases h : LN L ≥ 65
  ·rw [if_pos h, decide_eq_true (show LN L - 1 ≥ 64 by omega), cond_true]
  ·rw [if_neg h, decide_eq_false (show ¬ LN L - 1 ≥ 64 by omega), cond_false]
   rw [CT_LSV1 (k := 23) (by rfl)]
   rfl
 ·rw [if_pos h0, show (q0 != 2) = true from bne_iff_ne.2 h0, cond_true]
theorem pushR : LF_rM_Push [.int .i64 q0, .int .i64 q1, .int .i64 q2, .int .i64 q3, .int .i64 q4, .int .i64 q5, .int .i64 q6, .int .u16 r, .int .i64 o, .int .i64 k, .bool b0, .bool b1, .int .u16 m, L] = pushY q0 q1 q2 q3 q4 q5 q6 r o k b0 b1 m L := by
 have hp : ∀ vs, pre_rM_top vs = true := fun _ => rfl
 have hq : ∀ vs, pre_rM_Depth vs = true := fun _ => rfl
 have hr : RO 112 L = true := by have := lenOK.clone g.ok; rwa [clone_id g] at this
 have hs : ∀ cs, RO 112 (SN L cs) = true := fun cs => by have := lenOK.snoc g.ok cs; rwa [clone_id g] at this
 rw [LF_rM_Push_eq]
 unfold OUT_rM_Push pushY
 by_cases h0 : q0 = 2
 ·rw [if_neg (show ¬ q0 ≠ 2 from fun e => e h0), show (q0 != 2) = false from by rw [h0]; rfl, cond_false]
  simp only [hq, hp, rdep g, rtop g, inb_last g, clone_id g, hr, hs, cond_true, ← begins]
  by_cases h : LN L ≥ 65
  ·rw [if_pos h, decide_eq_true (show LN L - 1 ≥ 64 by omega), cond_true]
  ·rw [if_neg h, decide_eq_false (show ¬ LN L - 1 ≥ 64 by omega), cond_false]
   rfl
 ·rw [if_pos h0, show (q0 != 2) = true from bne_iff_ne.2 h0, cond_true]
theorem push_good (hr : Is16 r) : ∃ e L', pushY q0 q1 q2 q3 q4 q5 q6 r o k b0 b1 m L = [.int .i64 0, .int .i64 e, .int .u16 m, L'] ∧ Good L' := by
 unfold pushY
 by_cases h0 : q0 = 2
 ·rw [if_neg (show ¬ q0 ≠ 2 from fun e => e h0)]
  by_cases h : LN L ≥ 65
  ·rw [if_pos h]
   exact ⟨_, _, rfl, g⟩
  ·rw [if_neg h]
   have q := beg_rng g.lev b0
   exact ⟨_, _, rfl, g.snoc (by omega) ⟨rfl, rfl, q.1, q.2, hr⟩⟩
 ·rw [if_pos h0]
  exact ⟨_, _, rfl, g⟩
end
theorem paintF {T X : Value} {m : Int} (g : Good T) (q0 q1 q2 q3 q4 q5 q6 r o k : Int) (b0 b1 : Bool) (x0 x1 x2 x3 x4 : Int) :
 F_fM_paint (PK [.int .u16 m, X]) T q0 q1 q2 q3 q4 q5 q6 r o k b0 b1 x0 x1 x2 x3 x4 = (num (CV (IX T (LN T - 1)) 0), num (CV (IX T (LN T - 1)) 1), num (CV (IX T (LN T - 1)) 2), num (CV (IX T (LN T - 1)) 3), num (CV (IX T (LN T - 1)) 4), num (CV (IX T (LN T - 1)) 5), num (CV (IX T (LN T - 1)) 6), num (CV (IX T (LN T - 1)) 7), num (CV (IX T (LN T - 1)) 8), num (CV (IX T (LN T - 1)) 9), tru (CV (IX T (LN T - 1)) 10), tru (CV (IX T (LN T - 1)) 11),
  (stepL o k m (x0, x1, x2, x3, x4, true) (IX T (LN T - 1))).1, (stepL o k m (x0, x1, x2, x3, x4, true) (IX T (LN T - 1))).2.1, (stepL o k m (x0, x1, x2, x3, x4, true) (IX T (LN T - 1))).2.2.1, (stepL o k m (x0, x1, x2, x3, x4, true) (IX T (LN T - 1))).2.2.2.1, (stepL o k m (x0, x1, x2, x3, x4, true) (IX T (LN T - 1))).2.2.2.2.1, (stepL o k m (x0, x1, x2, x3, x4, true) (IX T (LN T - 1))).2.2.2.2.2.1,
  num (CV (IX T (LN T - 1)) 18), num (CV (IX T (LN T - 1)) 19), num (CV (IX T (LN T - 1)) 20), num (CV (IX T (LN T - 1)) 21), num (CV (IX T (LN T - 1)) 22), (stepL o k m (x0, x1, x2, x3, x4, true) (IX T (LN T - 1))).2.2.2.2.2.2) := by
 rw [F_fM_paint_eq]
 have e : num (CV (PK [.int .u16 m, X]) 0) = m := rfl
 rw [e, lenOK.sub g.ok, inb_last g, cond_true]
 rfl
noncomputable def popY (s m : Int) (L : Value) : List Value :=
 if LN L - 1 = 0 then [.int .i64 0, .int .u16 0, .int .u16 0, .int .u16 0, .int .u16 0, .int .u16 0, .int .i64 18, .int .u16 m, L] else
 let e := IX L (LN L - 1)
 let x := F_group_Result (num (CV e 12)) (num (CV e 13)) (num (CV e 14)) (num (CV e 15)) (num (CV e 16)) (num (CV e 17)) (num (CV e 18)) (num (CV e 19)) (num (CV e 20)) (num (CV e 21)) (num (CV e 22)) m
 let z := F_r6_Both x.1 x.2.1 x.2.2.1 x.2.2.2.1 x.2.2.2.2.1 (if num (CV e 4) = 0 then m else s) (num (CV e 7)) m
 bif !z.2.2.2.2.2 then [.int .i64 0, .int .u16 0, .int .u16 0, .int .u16 0, .int .u16 0, .int .u16 0, .int .i64 20, .int .u16 m, L] else
 bif !x.2.2.2.2.2 then [.int .i64 0, .int .u16 0, .int .u16 0, .int .u16 0, .int .u16 0, .int .u16 0, .int .i64 16, .int .u16 m, L] else
 let T := TK L (LN L - 1)
 let y := stepL (num (CV e 8)) (num (CV e 9)) m z (IX T (LN T - 1))
 bif !y.2.2.2.2.2.2 then [.int .i64 0, .int .u16 0, .int .u16 0, .int .u16 0, .int .u16 0, .int .u16 0, .int .i64 16, .int .u16 m, L] else
 [.int .i64 0, .int .u16 z.1, .int .u16 z.2.1, .int .u16 z.2.2.1, .int .u16 z.2.2.2.1, .int .u16 z.2.2.2.2.1, .int .i64 0, .int .u16 m, ST 12 T (LN T - 1) (acC y)]
section
variable {s m : Int} {L : Value} (g : Good L) (hm : m = 255 ∨ m = 65535) (hs : Is16 s)
include g hm hs
set_option maxHeartbeats 2000000 in
theorem popF : LF_fM_Pop [.int .u16 s, .int .u16 m, L] = popY s m L := by
 have hq : ∀ vs, pre_fM_Depth vs = true := fun _ => rfl
 have hp : pre_fM_top [PK [.int .u16 m, L]] = true := g.ok
 have m1 := m16 hm
 have l1 := g.l
 rw [LF_fM_Pop_eq]
 unfold OUT_fM_Pop popY
 simp only [hq, hp, fdep g, topF g, cond_true, lenOK.sub g.ok]
 by_cases h0 : LN L - 1 = 0
 ·rw [if_pos h0, show (LN L - 1 == 0) = true from beq_iff_eq.2 h0, cond_true]
 ·have gT := g.tk h0
  have hT := LN_TK (l := L) (k := LN L - 1) (by omega) (by omega)
  have hpp : ∀ x y, pre_fM_paint (x :: TK L (LN L - 1) :: y) = true := fun _ _ => gT.ok
  have tkb : TKB L (LN L - 1) = true := TKB_of (by omega) (by omega)
  rw [if_neg h0, show (LN L - 1 == 0) = false from beq_eq_false_iff_ne.2 h0, cond_false]
  simp only [hpp, tkb, lenOK.sub gT.ok, inb_last gT, cond_true, paintF gT]
  have key : ∀ (c : Value) (y : Int × Int × Int × Int × Int × Int × Bool), IX (TK L (LN L - 1)) (LN (TK L (LN L - 1)) - 1) = c → TK (ST 0 L (LN (TK L (LN L - 1)) - 1) (opsC c ++ (acC y ++ bckC c))) (LN L - 1) = ST 12 (TK L (LN L - 1)) (LN (TK L (LN L - 1)) - 1) (acC y) := fun c y hc => by
   have := gT.l
   rw [TK_ST (by omega) (by omega), ← hc]
   exact st_12 gT.lev _ _ _ _ _ _
  have fin : ∀ {y : Int × Int × Int × Int × Int × Int × Bool} (z0 z1 z2 z3 z4 : Int) {c : Value}, IX (TK L (LN L - 1)) (LN (TK L (LN L - 1)) - 1) = c → (bif !y.2.2.2.2.2.2 then [.int .i64 0, .int .u16 0, .int .u16 0, .int .u16 0, .int .u16 0, .int .u16 0, .int .i64 16, .int .u16 m, L] else [.int .i64 0, .int .u16 z0, .int .u16 z1, .int .u16 z2, .int .u16 z3, .int .u16 z4, .int .i64 0, .int .u16 m, TK (ST 0 L (LN (TK L (LN L - 1)) - 1) (opsC c ++ (acC y ++ bckC c))) (LN L - 1)]) =
   (bif !y.2.2.2.2.2.2 then [.int .i64 0, .int .u16 0, .int .u16 0, .int .u16 0, .int .u16 0, .int .u16 0, .int .i64 16, .int .u16 m, L] else [.int .i64 0, .int .u16 z0, .int .u16 z1, .int .u16 z2, .int .u16 z3, .int .u16 z4, .int .i64 0, .int .u16 m, ST 12 (TK L (LN L - 1)) (LN (TK L (LN L - 1)) - 1) (acC y)]) := fun z0 z1 z2 z3 z4 c hc => by rw [key c _ hc]
  rcases result_v m1 g.lev.ac g.lev.bk with ⟨r0, r1, r2, r3, r4, e, v⟩ | e
  ·have p := v.p16 m1.2
   simp only [e, Bool.not_true, cond_true, cond_false, scaledF p hm hs g.lev.op]
   have hk : Is16 (if num (CV (IX L (LN L - 1)) 4) = 0 then m else s) := by split; exact m1; exact hs
   by_cases q : num (CV (IX L (LN L - 1)) 4) = 0
   ·rw [if_pos q] at hk ⊢
    rw [show (num (CV (IX L (LN L - 1)) 4) != 0) = false from by rw [q]; rfl, cond_false]
    rcases both_v p hm hk g.lev.op with ⟨z0, z1, z2, z3, z4, ez, vz, _, n2⟩ | ⟨ez, nz⟩
    ·simp only [ez, Bool.not_true, cond_false]
     rw [decide_eq_false (show ¬ num (CV (IX L (LN L - 1)) 7) > m by omega), cond_false]
     exact fin z0 z1 z2 z3 z4 rfl
    ·simp only [ez, Bool.not_false, cond_true]
     rw [decide_eq_true (show num (CV (IX L (LN L - 1)) 7) > m from Int.not_le.1 fun h => nz ⟨v.vp, Int.le_refl m, h⟩), cond_true]
   ·rw [if_neg q] at hk ⊢
    rw [show (num (CV (IX L (LN L - 1)) 4) != 0) = true from bne_iff_ne.2 q, cond_true]
    rcases both_v p hm hk g.lev.op with ⟨z0, z1, z2, z3, z4, ez, vz, n1, n2⟩ | ⟨ez, nz⟩
    ·simp only [ez, Bool.not_true, cond_false]
     rw [decide_eq_false (show ¬ s > m by omega), decide_eq_false (show ¬ num (CV (IX L (LN L - 1)) 7) > m by omega), cond_false, cond_false]
     exact fin z0 z1 z2 z3 z4 rfl
    ·simp only [ez, Bool.not_false, cond_true]
     by_cases h : s > m
     ·rw [decide_eq_true h, cond_true]
     ·rw [decide_eq_false h, cond_false, decide_eq_true (show num (CV (IX L (LN L - 1)) 7) > m from Int.not_le.1 fun h2 => nz ⟨v.vp, Int.not_lt.1 h, h2⟩), cond_true]
  ·simp only [e, Bool.not_false, cond_true, cond_false]
   have p : P16 0 0 0 0 0 := (PV.zero m1.1).p16 m1.2
   have hk : Is16 (if num (CV (IX L (LN L - 1)) 4) = 0 then m else s) := by split; exact m1; exact hs
   by_cases q : num (CV (IX L (LN L - 1)) 4) = 0
   ·rw [if_pos q] at hk ⊢
    rw [show (num (CV (IX L (LN L - 1)) 4) != 0) = false from by rw [q]; rfl, cond_false]
    rcases both_v p hm hk g.lev.op with ⟨z0, z1, z2, z3, z4, ez, vz, _, n2⟩ | ⟨ez, nz⟩
    ·simp only [ez, Bool.not_true, cond_false]
     rw [decide_eq_false (show ¬ num (CV (IX L (LN L - 1)) 7) > m by omega), cond_false]
    ·simp only [ez, Bool.not_false, cond_true]
     rw [decide_eq_true (show num (CV (IX L (LN L - 1)) 7) > m from Int.not_le.1 fun h => nz ⟨(PV.zero m1.1).vp, Int.le_refl m, h⟩), cond_true]
   ·rw [if_neg q] at hk ⊢
    rw [show (num (CV (IX L (LN L - 1)) 4) != 0) = true from bne_iff_ne.2 q, cond_true]
    rcases both_v p hm hk g.lev.op with ⟨z0, z1, z2, z3, z4, ez, vz, n1, n2⟩ | ⟨ez, nz⟩
    ·simp only [ez, Bool.not_true, cond_false]
     rw [decide_eq_false (show ¬ s > m by omega), decide_eq_false (show ¬ num (CV (IX L (LN L - 1)) 7) > m by omega), cond_false, cond_false]
    ·simp only [ez, Bool.not_false, cond_true]
     by_cases h : s > m
     ·rw [decide_eq_true h, cond_true]
     ·rw [decide_eq_false h, cond_false, decide_eq_true (show num (CV (IX L (LN L - 1)) 7) > m from Int.not_le.1 fun h2 => nz ⟨(PV.zero m1.1).vp, Int.not_lt.1 h, h2⟩), cond_true]
set_option maxHeartbeats 2000000 in
theorem popR : LF_rM_Pop [.int .u16 s, .int .u16 m, L] = popY s m L := by
 have hq : ∀ vs, pre_rM_Depth vs = true := fun _ => rfl
 have hp : ∀ vs, pre_rM_top vs = true := fun _ => rfl
 have m1 := m16 hm
 have l1 := g.l
 rw [LF_rM_Pop_eq]
 unfold OUT_rM_Pop popY
 simp only [hq, hp, rdep g, rtop g, inb_last g, cond_true, scaledR, ← results22 m1 g.lev.ac g.lev.bk]
 by_cases h0 : LN L - 1 = 0
 ·rw [if_pos h0, show (LN L - 1 == 0) = true from beq_iff_eq.2 h0, cond_true]
 ·have gT := g.tk h0
  have tkb : TKB L (LN L - 1) = true := TKB_of (by omega) (by omega)
  have ro : RO 112 (TK L (LN L - 1)) = true := by have := lenOK.clone gT.ok; rwa [clone_id gT] at this
  have hpp : ∀ x0 x1 x2 x3 x4 x5 x6 x7 x8 x9 x10 x11 x12 x13 x14 x15 x16 x17, pre_rM_paint [x0, x1, x2, x3, x4, x5, x6, x7, x8, x9, x10, x11, x12, x13, x14, x15, x16, x17, TK L (LN L - 1)] = true := fun _ _ _ _ _ _ _ _ _ _ _ _ _ _ _ _ _ _ => gT.ok
  have hk : Is16 (if num (CV (IX L (LN L - 1)) 4) = 0 then m else s) := by split; exact m1; exact hs
  rw [if_neg h0, show (LN L - 1 == 0) = false from beq_eq_false_iff_ne.2 h0, cond_false]
  simp only [tkb, clone_id gT, ro, hpp, cond_true]
  rcases result_v m1 g.lev.ac g.lev.bk with ⟨r0, r1, r2, r3, r4, e, v⟩ | e
  ·have p := v.p16 m1.2
   simp only [e, Bool.not_true, cond_false]
   rcases both_v p hm hk g.lev.op with ⟨z0, z1, z2, z3, z4, ez, vz, _, _⟩ | ⟨ez, nz⟩
   ·simp only [ez, Bool.not_true, cond_false, rpaintV gT hm (vz.p16 m1.2)]
    generalize stepL (num (CV (IX L (LN L - 1)) 8)) (num (CV (IX L (LN L - 1)) 9)) m (z0, z1, z2, z3, z4, true) (IX (TK L (LN L - 1)) (LN (TK L (LN L - 1)) - 1)) = y
    obtain ⟨y0, y1, y2, y3, y4, y5, y6⟩ := y
    cases y6 <;> rfl
   ·simp only [ez, Bool.not_false, cond_true]
  ·have p : P16 0 0 0 0 0 := (PV.zero m1.1).p16 m1.2
   simp only [e, Bool.not_false, cond_true]
theorem pop_good : ∃ x0 x1 x2 x3 x4 e L', popY s m L = [.int .i64 0, .int .u16 x0, .int .u16 x1, .int .u16 x2, .int .u16 x3, .int .u16 x4, .int .i64 e, .int .u16 m, L'] ∧ Good L' := by
 have m1 := m16 hm
 have hk : Is16 (if num (CV (IX L (LN L - 1)) 4) = 0 then m else s) := by split; exact m1; exact hs
 unfold popY
 by_cases h0 : LN L - 1 = 0
 ·rw [if_pos h0]
  exact ⟨_, _, _, _, _, _, _, rfl, g⟩
 ·rw [if_neg h0]
  dsimp only
  have gT := g.tk h0
  rcases result_v m1 g.lev.ac g.lev.bk with ⟨r0, r1, r2, r3, r4, e, v⟩ | e
  ·simp only [e, Bool.not_true, cond_false]
   rcases both_v (v.p16 m1.2) hm hk g.lev.op with ⟨z0, z1, z2, z3, z4, ez, vz, _, _⟩ | ⟨ez, nz⟩
   ·have gd := step_good gT m1 (x := (z0, z1, z2, z3, z4, true)) (vz.p16 m1.2) (num (CV (IX L (LN L - 1)) 8)) (num (CV (IX L (LN L - 1)) 9))
    simp only [ez, Bool.not_true, cond_false]
    generalize stepL (num (CV (IX L (LN L - 1)) 8)) (num (CV (IX L (LN L - 1)) 9)) m (z0, z1, z2, z3, z4, true) (IX (TK L (LN L - 1)) (LN (TK L (LN L - 1)) - 1)) = y at gd
    obtain ⟨y0, y1, y2, y3, y4, y5, y6⟩ := y
    cases y6 with
    | false => exact ⟨_, _, _, _, _, _, _, rfl, g⟩
    | true => exact ⟨_, _, _, _, _, _, _, rfl, gd⟩
   ·simp only [ez, Bool.not_false, cond_true]
    exact ⟨_, _, _, _, _, _, _, rfl, g⟩
  ·simp only [e, Bool.not_false, cond_true]
   rcases both_v ((PV.zero m1.1).p16 m1.2) hm hk g.lev.op with ⟨z0, z1, z2, z3, z4, ez, vz, _, _⟩ | ⟨ez, nz⟩
   ·simp only [ez, Bool.not_true, cond_false]
    exact ⟨_, _, _, _, _, _, _, rfl, g⟩
   ·simp only [ez, Bool.not_false, cond_true]
    exact ⟨_, _, _, _, _, _, _, rfl, g⟩
end
end Go.Proofs.YtdioaiepkhepaaaGreatDoor
