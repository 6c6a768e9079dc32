/- Groups: accumulations, steps and results, as whole numbers. -/
import Derived.Test.YtdioaiepkhepaaaGreatDoorPix
import Derived.Test.YtdioaiepkhepaaaGreatDoorSm12
namespace Go.Proofs.YtdioaiepkhepaaaGreatDoor
open Go.RowKit
def AV (c0 c1 c2 a own f b0 b1 b2 b g m : Int) : Prop := c0 ≤ a ∧ c1 ≤ a ∧ c2 ≤ a ∧ (m = 255 ∨ m = 65535) ∧ own ≤ a ∧ own ≤ f ∧ a ≤ m ∧ f ≤ m ∧ VP b0 b1 b2 b g m ∧ g = b
instance (c0 c1 c2 a own f b0 b1 b2 b g m : Int) : Decidable (AV c0 c1 c2 a own f b0 b1 b2 b g m) := by unfold AV; infer_instance
theorem pAcc (c0 c1 c2 a own f b0 b1 b2 b g m : Int) : F_group_Valid c0 c1 c2 a own f b0 b1 b2 b g m = decide (AV c0 c1 c2 a own f b0 b1 b2 b g m) := by
 rw [F_group_Valid_eq]
 simp only [pValid, bif_ite, beq_dec]
 by_cases h : AV c0 c1 c2 a own f b0 b1 b2 b g m
 ·rw [decide_eq_true h]
  obtain ⟨h1, h2, h3, h4, h5, h6, h7, h8, h9, h10⟩ := h
  have e1 : ¬ c0 > a := by omega
  have e2 : ¬ c1 > a := by omega
  have e3 : ¬ c2 > a := by omega
  subst h10
  rw [if_neg e1, if_neg e2, if_neg e3]
  simp only [h5, h6, h7, h8, h9, if_true, decide_true]
  rcases h4 with rfl | rfl <;> rfl
 ·rw [decide_eq_false h]
  unfold AV at h
  by_cases hv : VP b0 b1 b2 b g m
  ·simp only [hv, true_and] at h ⊢
   repeat' split
   all_goals first | rfl | (exfalso; omega) | (simp only [decide_eq_false_iff_not]; omega)
  ·simp only [hv, if_false]
   repeat' split
   all_goals rfl
theorem rAcc (c0 c1 c2 a own f b0 b1 b2 b g m : Int) : F_r6_ValidAccum c0 c1 c2 a own f b0 b1 b2 b g m = decide (AV c0 c1 c2 a own f b0 b1 b2 b g m) := by
 rw [F_r6_ValidAccum_eq]
 simp only [rValidP, full_dec, bif_ite, beq_dec]
 by_cases h : AV c0 c1 c2 a own f b0 b1 b2 b g m
 ·rw [decide_eq_true h]
  obtain ⟨h1, h2, h3, h4, h5, h6, h7, h8, h9, h10⟩ := h
  have e1 : ¬ c0 > a := by omega
  have e2 : ¬ c1 > a := by omega
  have e3 : ¬ c2 > a := by omega
  subst h10
  rw [if_neg e1, if_neg e2, if_neg e3]
  simp only [h4, h5, h6, h7, h8, h9, if_true, decide_true]
 ·rw [decide_eq_false h]
  unfold AV at h
  by_cases hv : VP b0 b1 b2 b g m
  ·simp only [hv, true_and] at h ⊢
   repeat' split
   all_goals first | rfl | (exfalso; omega) | (simp only [decide_eq_false_iff_not]; omega)
  ·simp only [hv, if_false]
   repeat' split
   all_goals rfl
structure A16 (c0 c1 c2 a own f : Int) : Prop where
 c0 : Is16 c0
 c1 : Is16 c1
 c2 : Is16 c2
 a : Is16 a
 own : Is16 own
 f : Is16 f
theorem AV.m0 {c0 c1 c2 a own f b0 b1 b2 b g m : Int} (h : AV c0 c1 c2 a own f b0 b1 b2 b g m) : 1 ≤ m ∧ m ≤ 65535 := by have := h.2.2.2.1; omega
theorem begins (i k : Bool) (c0 c1 c2 a own f b0 b1 b2 b g : Int) : F_group_Begin i k c0 c1 c2 a own f b0 b1 b2 b g = F_r6_Begin i k c0 c1 c2 a own f b0 b1 b2 b g := by
 rw [F_group_Begin_eq, F_r6_Begin_eq]
 cases i <;> cases k <;> rfl
def StV (kn : Bool) (o k m s0 s1 s2 a f c0 c1 c2 A own F b0 b1 b2 b g : Int) : Prop := (1 ≤ o ∧ o ≤ 12) ∧ (1 ≤ k ∧ k ≤ 12) ∧ AV c0 c1 c2 A own F b0 b1 b2 b g m ∧ VP s0 s1 s2 a f m ∧ (kn = true → o = 4)
instance (kn : Bool) (o k m s0 s1 s2 a f c0 c1 c2 A own F b0 b1 b2 b g : Int) : Decidable (StV kn o k m s0 s1 s2 a f c0 c1 c2 A own F b0 b1 b2 b g) := by unfold StV; infer_instance
noncomputable def stepZ (kn : Bool) (o k m s0 s1 s2 a f c0 c1 c2 A own F b0 b1 b2 b : Int) : Int × Int × Int × Int × Int × Int × Bool :=
 if kn then (kHalf k m s0 a f c0 b0 b, kHalf k m s1 a f c1 b1 b, kHalf k m s2 a f c2 b2 b, kAlpha m a f A b, kAlpha m a f own 0, shapeZ 4 f F m, true)
 else (mixH o k m s0 a c0 A, mixH o k m s1 a c1 A, mixH o k m s2 a c2 A, alphaZ o a A m, alphaZ o a own m, shapeZ o f F m, true)
section
variable {kn : Bool} {o k m s0 s1 s2 a f c0 c1 c2 A own F b0 b1 b2 b g : Int} (m1 : Is16 m) (s : P16 s0 s1 s2 a f) (c : A16 c0 c1 c2 A own F) (d : P16 b0 b1 b2 b g)
include m1 s c d
theorem pReplace (hA : AV c0 c1 c2 A own F b0 b1 b2 b g m) (hs : VP s0 s1 s2 a f m) : F_group_replace k m s0 s1 s2 a f c0 c1 c2 A own F b0 b1 b2 b g = if 1 ≤ k ∧ k ≤ 12 then stepZ true 4 k m s0 s1 s2 a f c0 c1 c2 A own F b0 b1 b2 b else (0, 0, 0, 0, 0, 0, false) := by
 have m0 := hA.m0
 obtain ⟨h1, h2, h3, h4, h5, h6, h7, h8, ⟨g1, g2, g3, g4, g5⟩, h10⟩ := hA
 obtain ⟨u0, u1, u2, af, fm⟩ := hs
 rw [F_group_replace_eq, kOwn, kColor s.c0 s.a s.f c.c0 d.c0 d.a m1, kColor s.c1 s.a s.f c.c1 d.c1 d.a m1, kColor s.c2 s.a s.f c.c2 d.c2 d.a m1, kAl s.a s.f c.a d.a m1, kAl s.a s.f c.own zero16 m1]
 by_cases hk : 1 ≤ k ∧ k ≤ 12
 ·have v0 : KV k m s0 a f c0 b0 b := ⟨hk, u0, g1, h4, af, fm, by omega, by omega⟩
  have v1 : KV k m s1 a f c1 b1 b := ⟨hk, u1, g2, h4, af, fm, by omega, by omega⟩
  have v2 : KV k m s2 a f c2 b2 b := ⟨hk, u2, g3, h4, af, fm, by omega, by omega⟩
  have v3 : KA m a f A b := ⟨h4, af, fm, by omega, h7⟩
  have v4 : KA m a f own 0 := ⟨h4, af, fm, by omega, by omega⟩
  rw [if_pos v0, if_pos v1, if_pos v2, if_pos v3, if_pos v4, if_pos hk, pShape (o := 4) s.f c.f m1 m0.1 ⟨by decide, fm, h8⟩]
  rfl
 ·have v0 : ¬ KV k m s0 a f c0 b0 b := fun h => hk h.1
  rw [if_neg v0, if_neg hk]
  rfl
theorem pStep : F_group_Step kn o k m s0 s1 s2 a f c0 c1 c2 A own F b0 b1 b2 b g = if StV kn o k m s0 s1 s2 a f c0 c1 c2 A own F b0 b1 b2 b g then stepZ kn o k m s0 s1 s2 a f c0 c1 c2 A own F b0 b1 b2 b else (0, 0, 0, 0, 0, 0, false) := by
 rw [F_group_Step_eq, pAcc, pValid]
 by_cases hA : AV c0 c1 c2 A own F b0 b1 b2 b g m
 ·by_cases hs : VP s0 s1 s2 a f m
  ·rw [decide_eq_true hA, decide_eq_true hs, pReplace m1 s c d hA hs]
   have m0 := hA.m0
   simp only [Bool.not_true, cond_false]
   cases kn with
   | true =>
    simp only [cond_true]
    by_cases ho : o = 4
    ·subst ho
     by_cases hk : 1 ≤ k ∧ k ≤ 12
     ·rw [if_pos hk, if_pos (show StV true 4 k m s0 s1 s2 a f c0 c1 c2 A own F b0 b1 b2 b g from ⟨by decide, hk, hA, hs, fun _ => rfl⟩)]
      rfl
     ·rw [if_neg hk, if_neg (fun h : StV true 4 k m s0 s1 s2 a f c0 c1 c2 A own F b0 b1 b2 b g => hk h.2.1)]
      rfl
    ·rw [if_neg (fun h : StV true o k m s0 s1 s2 a f c0 c1 c2 A own F b0 b1 b2 b g => ho (h.2.2.2.2 rfl))]
     have e : (o != 4) = true := by simp [ho]
     rw [e]
     rfl
   | false =>
    simp only [cond_false]
    have sa : a ≤ m := Int.le_trans hs.2.2.2.1 hs.2.2.2.2
    rw [pColor m1 s.c0 s.a c.c0 c.a, pColor m1 s.c1 s.a c.c1 c.a, pColor m1 s.c2 s.a c.c2 c.a]
    by_cases hok : (1 ≤ o ∧ o ≤ 12) ∧ (1 ≤ k ∧ k ≤ 12)
    ·have v0 : MV o k m s0 a c0 A := ⟨hok.1, hok.2, hs.1, hA.1, sa, hA.2.2.2.2.2.2.1, hA.2.2.2.1⟩
     have v1 : MV o k m s1 a c1 A := ⟨hok.1, hok.2, hs.2.1, hA.2.1, sa, hA.2.2.2.2.2.2.1, hA.2.2.2.1⟩
     have v2 : MV o k m s2 a c2 A := ⟨hok.1, hok.2, hs.2.2.1, hA.2.2.1, sa, hA.2.2.2.2.2.2.1, hA.2.2.2.1⟩
     have om : own ≤ m := Int.le_trans hA.2.2.2.2.1 hA.2.2.2.2.2.2.1
     rw [if_pos v0, if_pos v1, if_pos v2, if_pos (show StV false o k m s0 s1 s2 a f c0 c1 c2 A own F b0 b1 b2 b g from ⟨hok.1, hok.2, hA, hs, fun h => by cases h⟩),
      (pAlpha (o := o) s.a c.a m1 m0.1 ⟨hok.1, sa, hA.2.2.2.2.2.2.1⟩).1, (pAlpha (o := o) s.a c.own m1 m0.1 ⟨hok.1, sa, om⟩).1, pShape (o := o) s.f c.f m1 m0.1 ⟨hok.1, hs.2.2.2.2, hA.2.2.2.2.2.2.2.1⟩]
     rfl
    ·have v0 : ¬ MV o k m s0 a c0 A := fun h => hok ⟨h.1, h.2.1⟩
     rw [if_neg v0, if_neg (fun h : StV false o k m s0 s1 s2 a f c0 c1 c2 A own F b0 b1 b2 b g => hok ⟨h.1, h.2.1⟩)]
     rfl
  ·rw [decide_eq_true hA, decide_eq_false hs, if_neg (fun h : StV kn o k m s0 s1 s2 a f c0 c1 c2 A own F b0 b1 b2 b g => hs h.2.2.2.1)]
   rfl
 ·rw [decide_eq_false hA, if_neg (fun h : StV kn o k m s0 s1 s2 a f c0 c1 c2 A own F b0 b1 b2 b g => hA h.2.2.1)]
  rfl
theorem rStep : F_r6_Step kn o k m s0 s1 s2 a f c0 c1 c2 A own F b0 b1 b2 b g = if StV kn o k m s0 s1 s2 a f c0 c1 c2 A own F b0 b1 b2 b g then stepZ kn o k m s0 s1 s2 a f c0 c1 c2 A own F b0 b1 b2 b else (0, 0, 0, 0, 0, 0, false) := by
 rw [F_r6_Step_eq, rIsOp, rIsMode, rAcc, rValidP]
 by_cases ho : 1 ≤ o ∧ o ≤ 12
 ·by_cases hk : 1 ≤ k ∧ k ≤ 12
  ·by_cases hA : AV c0 c1 c2 A own F b0 b1 b2 b g m
   ·by_cases hs : VP s0 s1 s2 a f m
    ·rw [decide_eq_true ho, decide_eq_true hk, decide_eq_true hA, decide_eq_true hs]
     have m0 := hA.m0
     have hA' := hA
     obtain ⟨h1, h2, h3, h4, h5, h6, h7, h8, ⟨g1, g2, g3, g4, g5⟩, h10⟩ := hA'
     obtain ⟨u0, u1, u2, af, fm⟩ := hs
     simp only [Bool.not_true, cond_false]
     cases kn with
     | true =>
      simp only [cond_true]
      by_cases ho4 : o = 4
      ·subst ho4
       have v0 : KV k m s0 a f c0 b0 b := ⟨hk, u0, g1, h4, af, fm, by omega, by omega⟩
       have v1 : KV k m s1 a f c1 b1 b := ⟨hk, u1, g2, h4, af, fm, by omega, by omega⟩
       have v2 : KV k m s2 a f c2 b2 b := ⟨hk, u2, g3, h4, af, fm, by omega, by omega⟩
       have v3 : KA m a f A b := ⟨h4, af, fm, by omega, h7⟩
       have v4 : KA m a f own 0 := ⟨h4, af, fm, by omega, by omega⟩
       rw [rOwn, rColor s.c0 s.a s.f c.c0 d.c0 d.a, rColor s.c1 s.a s.f c.c1 d.c1 d.a, rColor s.c2 s.a s.f c.c2 d.c2 d.a, rAl s.a s.f c.a d.a, rAl s.a s.f c.own zero16,
        if_pos v0, if_pos v1, if_pos v2, if_pos v3, if_pos v4, rShape (o := 4) s.f c.f m1 m0.1 ⟨by decide, fm, h8⟩, if_pos (show StV true 4 k m s0 s1 s2 a f c0 c1 c2 A own F b0 b1 b2 b g from ⟨by decide, hk, hA, ⟨u0, u1, u2, af, fm⟩, fun _ => rfl⟩)]
       rfl
      ·rw [if_neg (fun h : StV true o k m s0 s1 s2 a f c0 c1 c2 A own F b0 b1 b2 b g => ho4 (h.2.2.2.2 rfl))]
       have e : (o != 4) = true := by simp [ho4]
       rw [e]
       rfl
     | false =>
      simp only [cond_false]
      have sa : a ≤ m := by omega
      have v0 : MV o k m s0 a c0 A := ⟨ho, hk, u0, h1, sa, h7, h4⟩
      have v1 : MV o k m s1 a c1 A := ⟨ho, hk, u1, h2, sa, h7, h4⟩
      have v2 : MV o k m s2 a c2 A := ⟨ho, hk, u2, h3, sa, h7, h4⟩
      rw [rColorM m1 s.c0 s.a c.c0 c.a, rColorM m1 s.c1 s.a c.c1 c.a, rColorM m1 s.c2 s.a c.c2 c.a, if_pos v0, if_pos v1, if_pos v2, if_pos (show StV false o k m s0 s1 s2 a f c0 c1 c2 A own F b0 b1 b2 b g from ⟨ho, hk, hA, ⟨u0, u1, u2, af, fm⟩, fun h => by cases h⟩),
       rAlpha (o := o) s.a c.a m1 m0.1 ⟨ho, sa, h7⟩, rAlpha (o := o) s.a c.own m1 m0.1 ⟨ho, sa, by omega⟩, rShape (o := o) s.f c.f m1 m0.1 ⟨ho, fm, h8⟩]
      rfl
    ·rw [decide_eq_true ho, decide_eq_true hk, decide_eq_true hA, decide_eq_false hs, if_neg (fun h : StV kn o k m s0 s1 s2 a f c0 c1 c2 A own F b0 b1 b2 b g => hs h.2.2.2.1)]
     rfl
   ·rw [decide_eq_true ho, decide_eq_true hk, decide_eq_false hA, if_neg (fun h : StV kn o k m s0 s1 s2 a f c0 c1 c2 A own F b0 b1 b2 b g => hA h.2.2.1)]
    rfl
  ·rw [decide_eq_true ho, decide_eq_false hk, if_neg (fun h : StV kn o k m s0 s1 s2 a f c0 c1 c2 A own F b0 b1 b2 b g => hk h.2.1)]
   rfl
 ·rw [decide_eq_false ho, if_neg (fun h : StV kn o k m s0 s1 s2 a f c0 c1 c2 A own F b0 b1 b2 b g => ho h.1)]
  rfl
end
def remZ (c k own m : Int) : Int := if m * c ≤ (m - own) * k then 0 else if own < hv (m * c - (m - own) * k) 0 m then own else hv (m * c - (m - own) * k) 0 m
section
variable {c k own m : Int} (m0 : 1 ≤ m) (m1 : Is16 m) (c1 : Is16 c) (cm : c ≤ m) (k1 : Is16 k) (o1 : Is16 own) (om : own ≤ m)
include m0 m1 c1 cm k1 o1 om
theorem rem_num : 0 ≤ m * c ∧ m * c ≤ m * m ∧ m * m ≤ 4294836225 ∧ 0 ≤ (m - own) * k ∧ (m - own) * k ≤ 4294836225 ∧ (¬ m * c ≤ (m - own) * k → 0 ≤ hv (m * c - (m - own) * k) 0 m ∧ hv (m * c - (m - own) * k) 0 m ≤ m) := by
 have p1 := mulB m1.1 (Int.le_refl m) c1.1 cm
 have p2 := mulB m1.1 m1.2 m1.1 m1.2
 have o0 := o1.1
 have m2 := m1.2
 have p3 := mulB (show 0 ≤ m - own by omega) (show m - own ≤ 65535 by omega) k1.1 k1.2
 refine ⟨p1.1, p1.2, p2.2, p3.1, p3.2, fun h => ⟨hv_nn (by omega) (Int.le_refl 0) m0, hv_leN m0 (by omega)⟩⟩
theorem pRem : F_group_removed c k own m = remZ c k own m := by
 obtain ⟨x1, x2, x3, x4, x5, x6⟩ := rem_num m0 m1 c1 cm k1 o1 om
 have o0 := o1.1
 have m2 := m1.2
 rw [F_group_removed_eq, u64_in (x := m * c) x1 (by omega), u16_in (x := m - own) (by omega) (by omega), u64_in (x := (m - own) * k) x4 (by omega), bif_ite]
 unfold remZ
 split
 ·rfl
 ·rename_i h
  have b := x6 h
  rw [u64_in (x := m * c - (m - own) * k) (by omega) (by omega), pHalf (by omega) (by omega) m0 (by omega)]
  simp only
  rw [u16_in b.1 (by omega)]
theorem rRem1 (h : ¬ m * c ≤ (m - own) * k) : IntKind.u16.wrap (if own < F_r1_Half (IntKind.u64.wrap ((IntKind.u64.wrap (m * c)) - (IntKind.u64.wrap ((IntKind.u64.wrap (m - own)) * k)))) m then own else F_r1_Half (IntKind.u64.wrap ((IntKind.u64.wrap (m * c)) - (IntKind.u64.wrap ((IntKind.u64.wrap (m - own)) * k)))) m) = remZ c k own m := by
 obtain ⟨x1, x2, x3, x4, x5, x6⟩ := rem_num m0 m1 c1 cm k1 o1 om
 have o0 := o1.1
 have m2 := m1.2
 have b := x6 h
 rw [u64_in (x := m * c) x1 (by omega), u64_in (x := m - own) (by omega) (by omega), u64_in (x := (m - own) * k) x4 (by omega), u64_in (x := m * c - (m - own) * k) (by omega) (by omega), rHalf (by omega) (by omega) m0 (by omega)]
 unfold remZ
 rw [if_neg h]
 split
 ·exact u16_in o0 (by omega)
 ·exact u16_in b.1 (by omega)
theorem rRem0 : decide ((IntKind.u64.wrap (m * c)) > (IntKind.u64.wrap ((IntKind.u64.wrap (m - own)) * k))) = !decide (m * c ≤ (m - own) * k) := by
 obtain ⟨x1, x2, x3, x4, x5, x6⟩ := rem_num m0 m1 c1 cm k1 o1 om
 have o0 := o1.1
 have m2 := m1.2
 rw [u64_in (x := m * c) x1 (by omega), u64_in (x := m - own) (by omega) (by omega), u64_in (x := (m - own) * k) x4 (by omega)]
 by_cases h : m * c ≤ (m - own) * k
 ·simp [h]
 ·simp [h]
  omega
omit m0 m1 c1 cm k1 om in
theorem remZ_bd : 0 ≤ remZ c k own m → remZ c k own m ≤ own := by
 intro _
 have o0 := o1.1
 unfold remZ
 repeat' split
 all_goals omega
theorem remZ_nn : 0 ≤ remZ c k own m := by
 obtain ⟨x1, x2, x3, x4, x5, x6⟩ := rem_num m0 m1 c1 cm k1 o1 om
 have o0 := o1.1
 unfold remZ
 split
 ·exact Int.le_refl 0
 ·rename_i h
  have b := x6 h
  split <;> omega
end
def resZ (c0 c1 c2 own f b0 b1 b2 m : Int) : Int × Int × Int × Int × Int × Bool := (remZ c0 b0 own m, remZ c1 b1 own m, remZ c2 b2 own m, own, f, true)
section
variable {m c0 c1 c2 A own F b0 b1 b2 b g : Int} (m1 : Is16 m) (c : A16 c0 c1 c2 A own F) (d : P16 b0 b1 b2 b g)
include m1 c d
theorem pResult : F_group_Result c0 c1 c2 A own F b0 b1 b2 b g m = if AV c0 c1 c2 A own F b0 b1 b2 b g m then resZ c0 c1 c2 own F b0 b1 b2 m else (0, 0, 0, 0, 0, false) := by
 rw [F_group_Result_eq, pAcc]
 by_cases h : AV c0 c1 c2 A own F b0 b1 b2 b g m
 ·have m0 := h.m0
  rw [decide_eq_true h, if_pos h]
  obtain ⟨h1, h2, h3, h4, h5, h6, h7, h8, h9, h10⟩ := h
  rw [pRem m0.1 m1 c.c0 (by omega) d.c0 c.own (by omega), pRem m0.1 m1 c.c1 (by omega) d.c1 c.own (by omega), pRem m0.1 m1 c.c2 (by omega) d.c2 c.own (by omega)]
  rfl
 ·rw [decide_eq_false h, if_neg h]
  rfl
theorem rResult : F_r6_Result c0 c1 c2 A own F b0 b1 b2 b g m = if AV c0 c1 c2 A own F b0 b1 b2 b g m then resZ c0 c1 c2 own F b0 b1 b2 m else (0, 0, 0, 0, 0, false) := by
 rw [F_r6_Result_eq, rAcc]
 by_cases h : AV c0 c1 c2 A own F b0 b1 b2 b g m
 ·have m0 := h.m0
  rw [decide_eq_true h, if_pos h]
  obtain ⟨h1, h2, h3, h4, h5, h6, h7, h8, h9, h10⟩ := h
  have om : own ≤ m := by omega
  rw [rRem0 m0.1 m1 c.c0 (by omega) d.c0 c.own om, rRem0 m0.1 m1 c.c1 (by omega) d.c1 c.own om, rRem0 m0.1 m1 c.c2 (by omega) d.c2 c.own om]
  simp only [Bool.not_true, cond_false]
  have z {c k : Int} (h : m * c ≤ (m - own) * k) : remZ c k own m = 0 := if_pos h
  unfold resZ
  by_cases k0 : m * c0 ≤ (m - own) * b0 <;> by_cases k1 : m * c1 ≤ (m - own) * b1 <;> by_cases k2 : m * c2 ≤ (m - own) * b2
  ·simp only [decide_eq_true k0, decide_eq_true k1, decide_eq_true k2, Bool.not_true, cond_false, z k0, z k1, z k2]
  ·simp only [decide_eq_true k0, decide_eq_true k1, decide_eq_false k2, Bool.not_true, Bool.not_false, cond_false, cond_true, z k0, z k1, rRem1 m0.1 m1 c.c2 (show c2 ≤ m by omega) d.c2 c.own om k2]
  ·simp only [decide_eq_true k0, decide_eq_false k1, decide_eq_true k2, Bool.not_true, Bool.not_false, cond_false, cond_true, z k0, z k2, rRem1 m0.1 m1 c.c1 (show c1 ≤ m by omega) d.c1 c.own om k1]
  ·simp only [decide_eq_true k0, decide_eq_false k1, decide_eq_false k2, Bool.not_true, Bool.not_false, cond_false, cond_true, z k0, rRem1 m0.1 m1 c.c1 (show c1 ≤ m by omega) d.c1 c.own om k1, rRem1 m0.1 m1 c.c2 (show c2 ≤ m by omega) d.c2 c.own om k2]
  ·simp only [decide_eq_false k0, decide_eq_true k1, decide_eq_true k2, Bool.not_true, Bool.not_false, cond_false, cond_true, z k1, z k2, rRem1 m0.1 m1 c.c0 (show c0 ≤ m by omega) d.c0 c.own om k0]
  ·simp only [decide_eq_false k0, decide_eq_true k1, decide_eq_false k2, Bool.not_true, Bool.not_false, cond_false, cond_true, z k1, rRem1 m0.1 m1 c.c0 (show c0 ≤ m by omega) d.c0 c.own om k0, rRem1 m0.1 m1 c.c2 (show c2 ≤ m by omega) d.c2 c.own om k2]
  ·simp only [decide_eq_false k0, decide_eq_false k1, decide_eq_true k2, Bool.not_true, Bool.not_false, cond_false, cond_true, z k2, rRem1 m0.1 m1 c.c0 (show c0 ≤ m by omega) d.c0 c.own om k0, rRem1 m0.1 m1 c.c1 (show c1 ≤ m by omega) d.c1 c.own om k1]
  ·simp only [decide_eq_false k0, decide_eq_false k1, decide_eq_false k2, Bool.not_false, cond_true, rRem1 m0.1 m1 c.c0 (show c0 ≤ m by omega) d.c0 c.own om k0, rRem1 m0.1 m1 c.c1 (show c1 ≤ m by omega) d.c1 c.own om k1, rRem1 m0.1 m1 c.c2 (show c2 ≤ m by omega) d.c2 c.own om k2]
 ·rw [decide_eq_false h, if_neg h]
  rfl
end
structure AW (c0 c1 c2 a own f m : Int) : Prop where
 l0 : 0 ≤ c0
 l1 : 0 ≤ c1
 l2 : 0 ≤ c2
 u0 : c0 ≤ a
 u1 : c1 ≤ a
 u2 : c2 ≤ a
 o0 : 0 ≤ own
 oa : own ≤ a
 of : own ≤ f
 am : a ≤ m
 fm : f ≤ m
theorem AW.a16 {c0 c1 c2 a own f m : Int} (h : AW c0 c1 c2 a own f m) (hm : m ≤ 65535) : A16 c0 c1 c2 a own f := by
 obtain ⟨l0, l1, l2, u0, u1, u2, o0, oa, of, am, fm⟩ := h
 exact ⟨⟨l0, by omega⟩, ⟨l1, by omega⟩, ⟨l2, by omega⟩, ⟨by omega, by omega⟩, ⟨o0, by omega⟩, ⟨by omega, by omega⟩⟩
end Go.Proofs.YtdioaiepkhepaaaGreatDoor
