/- Groups: accumulations, steps and results, as whole numbers. -/
import Derived.Test.YtfjhhadmncjdiaaGreatDoorPix
import Derived.Test.YtfjhhadmncjdiaaGreatDoorSm12
namespace Go.Proofs.YtfjhhadmncjdiaaGreatDoor
open Go.RowKit

def AV (c0 c1 c2 a own f b0 b1 b2 b g m : Int) : Prop := c0 ≤ a ∧ c1 ≤ a ∧ c2 ≤ a ∧ (m = 255 ∨ m = 65535) ∧ own ≤ a ∧ own ≤ f ∧ a ≤ m ∧ f ≤ m ∧ VP b0 b1 b2 b g m ∧ g = b
instance (c0 c1 c2 a own f b0 b1 b2 b g m : Int) : Decidable (AV c0 c1 c2 a own f b0 b1 b2 b g m) := by unfold AV; infer_instance
structure A16 (c0 c1 c2 a own f : Int) : Prop where
  c0 : Is16 c0
  c1 : Is16 c1
  c2 : Is16 c2
  a : Is16 a
  own : Is16 own
  f : Is16 f
theorem AV.m0 {c0 c1 c2 a own f b0 b1 b2 b g m : Int} (h : AV c0 c1 c2 a own f b0 b1 b2 b g m) : 1 ≤ m ∧ m ≤ 65535 := by have := h.2.2.2.1; omega

/-! Begin. -/

/-! Step. -/
def StV (kn : Bool) (o k m s0 s1 s2 a f c0 c1 c2 A own F b0 b1 b2 b g : Int) : Prop := (1 ≤ o ∧ o ≤ 12) ∧ (1 ≤ k ∧ k ≤ 12) ∧ AV c0 c1 c2 A own F b0 b1 b2 b g m ∧ VP s0 s1 s2 a f m ∧ (kn = true → o = 4)
instance (kn : Bool) (o k m s0 s1 s2 a f c0 c1 c2 A own F b0 b1 b2 b g : Int) : Decidable (StV kn o k m s0 s1 s2 a f c0 c1 c2 A own F b0 b1 b2 b g) := by unfold StV; infer_instance
noncomputable def stepZ (kn : Bool) (o k m s0 s1 s2 a f c0 c1 c2 A own F b0 b1 b2 b : Int) : Int × Int × Int × Int × Int × Int × Bool :=
  if kn then (kHalf k m s0 a f c0 b0 b, kHalf k m s1 a f c1 b1 b, kHalf k m s2 a f c2 b2 b, kAlpha m a f A b, kAlpha m a f own 0, shapeZ 4 f F m, true)
  else (mixH o k m s0 a c0 A, mixH o k m s1 a c1 A, mixH o k m s2 a c2 A, alphaZ o a A m, alphaZ o a own m, shapeZ o f F m, true)
section
variable {kn : Bool} {o k m s0 s1 s2 a f c0 c1 c2 A own F b0 b1 b2 b g : Int} (m1 : Is16 m) (s : P16 s0 s1 s2 a f) (c : A16 c0 c1 c2 A own F) (d : P16 b0 b1 b2 b g)
include m1 s c d
end

/-! Result. -/
def remZ (c k own m : Int) : Int := if m * c ≤ (m - own) * k then 0 else if own < hv (m * c - (m - own) * k) 0 m then own else hv (m * c - (m - own) * k) 0 m
section
variable {c k own m : Int} (m0 : 1 ≤ m) (m1 : Is16 m) (c1 : Is16 c) (cm : c ≤ m) (k1 : Is16 k) (o1 : Is16 own) (om : own ≤ m)
include m0 m1 c1 cm k1 o1 om
theorem rem_num : 0 ≤ m * c ∧ m * c ≤ m * m ∧ m * m ≤ 4294836225 ∧ 0 ≤ (m - own) * k ∧ (m - own) * k ≤ 4294836225 ∧ (¬ m * c ≤ (m - own) * k → 0 ≤ hv (m * c - (m - own) * k) 0 m ∧ hv (m * c - (m - own) * k) 0 m ≤ m) := by
  have p1 := mulB m1.1 (Int.le_refl m) c1.1 cm
  have p2 := mulB m1.1 m1.2 m1.1 m1.2
  have o0 := o1.1
  have m2 := m1.2
  have p3 := mulB (show 0 ≤ m - own by omega) (show m - own ≤ 65535 by omega) k1.1 k1.2
  refine ⟨p1.1, p1.2, p2.2, p3.1, p3.2, fun h => ⟨hv_nn (by omega) (Int.le_refl 0) m0, hv_leN m0 (by omega)⟩⟩
theorem rRem1 (h : ¬ m * c ≤ (m - own) * k) : IntKind.u16.wrap (if own < F_ref01_Half (IntKind.u64.wrap ((IntKind.u64.wrap (m * c)) - (IntKind.u64.wrap ((IntKind.u64.wrap (m - own)) * k)))) m then own else F_ref01_Half (IntKind.u64.wrap ((IntKind.u64.wrap (m * c)) - (IntKind.u64.wrap ((IntKind.u64.wrap (m - own)) * k)))) m) = remZ c k own m := by
  obtain ⟨x1, x2, x3, x4, x5, x6⟩ := rem_num m0 m1 c1 cm k1 o1 om
  have o0 := o1.1
  have m2 := m1.2
  have b := x6 h
  rw [u64_in (x := m * c) x1 (by omega), u64_in (x := m - own) (by omega) (by omega), u64_in (x := (m - own) * k) x4 (by omega), u64_in (x := m * c - (m - own) * k) (by omega) (by omega), rHalf (by omega) (by omega) m0 (by omega)]
  unfold remZ
  rw [if_neg h]
  split
  · exact u16_in o0 (by omega)
  · exact u16_in b.1 (by omega)
theorem rRem0 : decide ((IntKind.u64.wrap (m * c)) > (IntKind.u64.wrap ((IntKind.u64.wrap (m - own)) * k))) = !decide (m * c ≤ (m - own) * k) := by
  obtain ⟨x1, x2, x3, x4, x5, x6⟩ := rem_num m0 m1 c1 cm k1 o1 om
  have o0 := o1.1
  have m2 := m1.2
  rw [u64_in (x := m * c) x1 (by omega), u64_in (x := m - own) (by omega) (by omega), u64_in (x := (m - own) * k) x4 (by omega)]
  by_cases h : m * c ≤ (m - own) * k
  · simp [h]
  · simp [h]
    omega
omit m0 m1 c1 cm k1 om in
theorem remZ_bd : 0 ≤ remZ c k own m → remZ c k own m ≤ own := by
  intro _
  have o0 := o1.1
  unfold remZ
  repeat' split
  all_goals omega
theorem remZ_nn : 0 ≤ remZ c k own m := by
  obtain ⟨x1, x2, x3, x4, x5, x6⟩ := rem_num m0 m1 c1 cm k1 o1 om
  have o0 := o1.1
  unfold remZ
  split
  · exact Int.le_refl 0
  · rename_i h
    have b := x6 h
    split <;> omega
end
def resZ (c0 c1 c2 own f b0 b1 b2 m : Int) : Int × Int × Int × Int × Int × Bool := (remZ c0 b0 own m, remZ c1 b1 own m, remZ c2 b2 own m, own, f, true)
section
variable {m c0 c1 c2 A own F b0 b1 b2 b g : Int} (m1 : Is16 m) (c : A16 c0 c1 c2 A own F) (d : P16 b0 b1 b2 b g)
include m1 c d
end
/-- A valid accumulation of samples that are not negative. -/
structure AW (c0 c1 c2 a own f m : Int) : Prop where
  l0 : 0 ≤ c0
  l1 : 0 ≤ c1
  l2 : 0 ≤ c2
  u0 : c0 ≤ a
  u1 : c1 ≤ a
  u2 : c2 ≤ a
  o0 : 0 ≤ own
  oa : own ≤ a
  of : own ≤ f
  am : a ≤ m
  fm : f ≤ m
theorem AW.a16 {c0 c1 c2 a own f m : Int} (h : AW c0 c1 c2 a own f m) (hm : m ≤ 65535) : A16 c0 c1 c2 a own f := by
  obtain ⟨l0, l1, l2, u0, u1, u2, o0, oa, of, am, fm⟩ := h
  exact ⟨⟨l0, by omega⟩, ⟨l1, by omega⟩, ⟨l2, by omega⟩, ⟨by omega, by omega⟩, ⟨o0, by omega⟩, ⟨by omega, by omega⟩⟩
theorem AW.av {c0 c1 c2 a own f b0 b1 b2 b m : Int} (h : AW c0 c1 c2 a own f m) (hm : m = 255 ∨ m = 65535) (d : PV b0 b1 b2 b b m) : AV c0 c1 c2 a own f b0 b1 b2 b b m := ⟨h.u0, h.u1, h.u2, hm, h.oa, h.of, h.am, h.fm, d.vp, rfl⟩
end Go.Proofs.YtfjhhadmncjdiaaGreatDoor
