/- compositorlaw03.SurdCompareAgrees: for every input the call returns true, and the arguments read as they did. No condition. -/
import Derived.Test.YtjgbkjkckhaheaaRowBase
import Derived.Test.YtjgbkjkckhaheaaLawRow
import Derived.Test.YtjgbkjkckhaheaaLaw03
namespace Go.Proofs.Ytjgbkjkckhaheaa
open Go.ChangeShapes Go.WideShapes Go.ChangeAt Go.RowKit Go.Joins

theorem surdCompareAgrees_true (vs : List Value) (hk : KindsL (kindsL A_law03_SurdCompareAgrees) vs) : tru ((L_law03_SurdCompareAgrees vs).getD 0 undef) = true := by
  obtain ⟨_, _, rfl, ⟨p0, rfl, l0, h0⟩, _, _, rfl, ⟨p1, rfl, l1, h1⟩, _, _, rfl, ⟨p2, rfl, l2, h2⟩, _, _, rfl, ⟨p3, rfl, l3, h3⟩, _, _, rfl, ⟨p4, rfl, l4, h4⟩, _, _, rfl, ⟨p5, rfl, l5, h5⟩, _, _, rfl, ⟨p6, rfl, l6, h6⟩, _, _, rfl, ⟨p7, rfl, l7, h7⟩, _, _, rfl, ⟨p8, rfl, l8, h8⟩, _, _, rfl, ⟨p9, rfl, l9, h9⟩, rfl⟩ := hk
  exact surdCompareAgrees ⟨isW l0 h0, isW l1 h1, isW l2 h2, isW l3 h3, isW l4 h4⟩ p5 p6 p7 p8 (isW l9 h9)

set_option maxRecDepth 100000 in
theorem surdCompareAgrees_lifted (os : Os) (started : os.Started) (H : Type) (enc : TypeId × Value → H) :
    ReturnsInHanded {} Try.checked os 10 .any (Rows.surdCompareAgreesSpec.pre6 enc Try.prog Try.f10 Rows.surdCompareAgreesRow.domain false) (Rows.surdCompareAgreesSpec.post enc Try.prog Try.f10 false true false false) := by
  refine returnsInHanded_of_change (C := Try.checked) Try.own started (by kernel_rfl) Try.func10
    (ChangeSpec.witness6 (enc := enc) (C := Try.checked) false ⟨#[], #[.agg #[.int .u64 0, .int .u64 0, .int .u64 0, .int .u64 0, .int .u64 0], .agg #[.int .i64 0, .int .i64 0, .int .i64 0, .int .i64 0], .int .u64 0], []⟩ 8 (by kernel_rfl) (by kernel_rfl) (by kernel_rfl) (by kernel_rfl)) ?_
  intro W base args ds gs before hval0 hW hcnd _
  have hval1 : ∀ (j : Nat) t v, Try.f10.params[j]? = some t → args[j]? = some v → Value.okWide Try.prog W .any base t v := hval0
  have hW' := hW
  obtain ⟨p, q, hA0, hV, rfl, hfz, hnd⟩ := hW
  have hA : DataW.TrodAll enc Try.prog W 0 (fun _ => true) true Try.f10.params.toList args.toList ds p := hA0
  have hval : ∀ (j : Nat) t v, Try.f10.params.toList[j]? = some t → args.toList[j]? = some v → Value.okWide Try.prog W .any base t v := fun j t v a b => hval1 j t v (by simpa using a) (by simpa using b)
  obtain ⟨rfl, rfl⟩ := trodVars_none hV
  have hB := hA
  rw [Try.params10] at hB
  obtain ⟨v0, vs0, d0, ds0, p0, q0, hv0, rfl, hp0, h0, r0⟩ := trodAll_cons hB
  obtain ⟨v1, vs1, d1, ds1, p1, q1, hv1, rfl, hp1, h1, r1⟩ := trodAll_cons r0
  obtain ⟨v2, vs2, d2, ds2, p2, q2, hv2, rfl, hp2, h2, r2⟩ := trodAll_cons r1
  obtain ⟨-, rfl, -⟩ := trodAll_nil r2
  obtain ⟨us, e1, k1⟩ := open_args (n := 8) (A := A_law03_SurdCompareAgrees) (by kernel_rfl) hval hA
  have e := e1 []
  rw [List.append_nil] at e
  obtain ⟨args⟩ := args
  simp only at e
  subst e
  clear hA0 hval0 hval1 e1
  simp only [List.append_nil] at hW'
  refine (law_calls (I := Inv) (F := L_law03_SurdCompareAgrees) (A := A_law03_SurdCompareAgrees) ok_law03_SurdCompareAgrees Try.call10 k1 (surdCompareAgrees_true us k1) (w := W) trivial).mono fun e W' ⟨he, hb⟩ => ?_
  subst he
  exact ⟨_, rfl, _, _, _, [], _, [], hW', trodAll_mk1 (shut_bool Try.underlying4 _), Below.trodAll Try.laidOut hb (by kernel_rfl) hA (fun x hx => hW'.lt x hx), rfl, hb.frame _, fun h => by cases h⟩

theorem surdCompareAgrees_holds : Rows.SurdCompareAgreesSaid :=
  OpenClaim.holds_of_wide 10 Try.f10 rfl rfl rfl rfl rfl rfl rfl ⟨rfl, rfl, rfl, rfl, rfl⟩ rfl rfl rfl rfl rfl (by kernel_rfl) Try.func10 (by kernel_rfl)
    (of_decide_eq_true (by kernel_rfl)) (by unfold Func.isWrapper; first | (rw [if_pos (by decide +kernel)]; kernel_rfl) | (rw [if_neg (by decide +kernel)]; exact ⟨rfl, rfl⟩))
    (fun os started H enc _ => surdCompareAgrees_lifted os started H enc)
#print axioms surdCompareAgrees_holds
end Go.Proofs.Ytjgbkjkckhaheaa
