/- compositorlaw10.KnockoutReplaces: for every input the call returns true, and the arguments read as they did. No condition. -/
import Derived.Test.YthldhjipjihmoaaRowBase
import Derived.Test.YthldhjipjihmoaaLawRow
import Derived.Test.YthldhjipjihmoaaLaw10
namespace Go.Proofs.Ythldhjipjihmoaa
open Go.ChangeShapes Go.WideShapes Go.ChangeAt Go.RowKit Go.Joins

theorem knockoutReplaces_true (vs : List Value) (hk : KindsL (kindsL A_law10_KnockoutReplaces) vs) : tru ((L_law10_KnockoutReplaces vs).getD 0 undef) = true := by
  obtain ⟨_, _, rfl, ⟨p0, rfl, l0, h0⟩, _, _, rfl, ⟨p1, rfl, l1, h1⟩, _, _, rfl, ⟨p2, rfl, l2, h2⟩, _, _, rfl, ⟨p3, rfl, l3, h3⟩, _, _, rfl, ⟨p4, rfl, l4, h4⟩, _, _, rfl, ⟨p5, rfl, l5, h5⟩, _, _, rfl, ⟨p6, rfl, l6, h6⟩, _, _, rfl, ⟨p7, rfl, l7, h7⟩, rfl⟩ := hk
  exact knockoutReplaces p0 p1 p2 p3 p4 p5 p6 p7

set_option maxRecDepth 100000 in
theorem knockoutReplaces_lifted (os : Os) (started : os.Started) (H : Type) (enc : TypeId × Value → H) :
    ReturnsInHanded {} Try.checked os 5 .any (Rows.knockoutReplacesSpec.pre6 enc Try.prog Try.f5 Rows.knockoutReplacesRow.domain false) (Rows.knockoutReplacesSpec.post enc Try.prog Try.f5 false true false false) := by
  refine returnsInHanded_of_change (C := Try.checked) Try.own started (by kernel_rfl) Try.func5
    (ChangeSpec.witness6 (enc := enc) (C := Try.checked) false ⟨#[], #[.int .i64 0, .agg #[.int .i64 0, .int .i64 0], .int .i64 0, .int .i64 0, .agg #[.int .i64 0, .int .i64 0], .int .i64 0], []⟩ 8 (by kernel_rfl) (by kernel_rfl) (by kernel_rfl) (by kernel_rfl)) ?_
  intro W base args ds gs before hval0 hW hcnd _
  have hval1 : ∀ (j : Nat) t v, Try.f5.params[j]? = some t → args[j]? = some v → Value.okWide Try.prog W .any base t v := hval0
  have hW' := hW
  obtain ⟨p, q, hA0, hV, rfl, hfz, hnd⟩ := hW
  have hA : DataW.TrodAll enc Try.prog W 0 (fun _ => true) true Try.f5.params.toList args.toList ds p := hA0
  have hval : ∀ (j : Nat) t v, Try.f5.params.toList[j]? = some t → args.toList[j]? = some v → Value.okWide Try.prog W .any base t v := fun j t v a b => hval1 j t v (by simpa using a) (by simpa using b)
  obtain ⟨rfl, rfl⟩ := trodVars_none hV
  have hB := hA
  rw [Try.params5] at hB
  obtain ⟨v0, vs0, d0, ds0, p0, q0, hv0, rfl, hp0, h0, r0⟩ := trodAll_cons hB
  obtain ⟨v1, vs1, d1, ds1, p1, q1, hv1, rfl, hp1, h1, r1⟩ := trodAll_cons r0
  obtain ⟨v2, vs2, d2, ds2, p2, q2, hv2, rfl, hp2, h2, r2⟩ := trodAll_cons r1
  obtain ⟨v3, vs3, d3, ds3, p3, q3, hv3, rfl, hp3, h3, r3⟩ := trodAll_cons r2
  obtain ⟨v4, vs4, d4, ds4, p4, q4, hv4, rfl, hp4, h4, r4⟩ := trodAll_cons r3
  obtain ⟨v5, vs5, d5, ds5, p5, q5, hv5, rfl, hp5, h5, r5⟩ := trodAll_cons r4
  obtain ⟨-, rfl, -⟩ := trodAll_nil r5
  obtain ⟨us, e1, k1⟩ := open_args (n := 8) (A := A_law10_KnockoutReplaces) (by kernel_rfl) hval hA
  have e := e1 []
  rw [List.append_nil] at e
  obtain ⟨args⟩ := args
  simp only at e
  subst e
  clear hA0 hval0 hval1 e1
  simp only [List.append_nil] at hW'
  refine (law_calls (I := Inv) (F := L_law10_KnockoutReplaces) (A := A_law10_KnockoutReplaces) ok_law10_KnockoutReplaces Try.call5 k1 (knockoutReplaces_true us k1) (w := W) trivial).mono fun e W' ⟨he, hb⟩ => ?_
  subst he
  exact ⟨_, rfl, _, _, _, [], _, [], hW', trodAll_mk1 (shut_bool Try.underlying4 _), Below.trodAll Try.laidOut hb (by kernel_rfl) hA (fun x hx => hW'.lt x hx), rfl, hb.frame _, fun h => by cases h⟩

theorem knockoutReplaces_holds : Rows.KnockoutReplacesSaid :=
  OpenClaim.holds_of_wide 5 Try.f5 rfl rfl rfl rfl rfl rfl rfl ⟨rfl, rfl, rfl, rfl, rfl⟩ rfl rfl rfl rfl rfl (by kernel_rfl) Try.func5 (by kernel_rfl)
    (of_decide_eq_true (by kernel_rfl)) (by unfold Func.isWrapper; first | (rw [if_pos (by decide +kernel)]; kernel_rfl) | (rw [if_neg (by decide +kernel)]; exact ⟨rfl, rfl⟩))
    (fun os started H enc _ => knockoutReplaces_lifted os started H enc)
#print axioms knockoutReplaces_holds
end Go.Proofs.Ythldhjipjihmoaa
