/- compositorlaw03.SurdFloorByCompare: for every input the call returns true, and the arguments read as they did. No condition. -/
import Derived.Test.YtjgbkjkckhaheaaRowBase
import Derived.Test.YtjgbkjkckhaheaaLawRow
import Derived.Test.YtjgbkjkckhaheaaLaw03
namespace Go.Proofs.Ytjgbkjkckhaheaa
open Go.ChangeShapes Go.WideShapes Go.ChangeAt Go.RowKit Go.Joins

theorem surdFloorByCompare_true (vs : List Value) (hk : KindsL (kindsL A_law03_SurdFloorByCompare) vs) : tru ((L_law03_SurdFloorByCompare vs).getD 0 undef) = true := by
  obtain ⟨_, _, rfl, ⟨p0, rfl, l0, h0⟩, _, _, rfl, ⟨p1, rfl, l1, h1⟩, _, _, rfl, ⟨p2, rfl, l2, h2⟩, _, _, rfl, ⟨p3, rfl, l3, h3⟩, rfl⟩ := hk
  exact surdFloorByCompare p0 p1 p2 p3

set_option maxRecDepth 100000 in
theorem surdFloorByCompare_lifted (os : Os) (started : os.Started) (H : Type) (enc : TypeId × Value → H) :
    ReturnsInHanded {} Try.checked os 12 .any (Rows.surdFloorByCompareSpec.pre6 enc Try.prog Try.f12 Rows.surdFloorByCompareRow.domain false) (Rows.surdFloorByCompareSpec.post enc Try.prog Try.f12 false true false false) := by
  refine returnsInHanded_of_change (C := Try.checked) Try.own started (by kernel_rfl) Try.func12
    (ChangeSpec.witness6 (enc := enc) (C := Try.checked) false ⟨#[], #[.agg #[.int .i64 0, .int .i64 0, .int .i64 0, .int .i64 0]], []⟩ 8 (by kernel_rfl) (by kernel_rfl) (by kernel_rfl) (by kernel_rfl)) ?_
  intro W base args ds gs before hval0 hW hcnd _
  have hval1 : ∀ (j : Nat) t v, Try.f12.params[j]? = some t → args[j]? = some v → Value.okWide Try.prog W .any base t v := hval0
  have hW' := hW
  obtain ⟨p, q, hA0, hV, rfl, hfz, hnd⟩ := hW
  have hA : DataW.TrodAll enc Try.prog W 0 (fun _ => true) true Try.f12.params.toList args.toList ds p := hA0
  have hval : ∀ (j : Nat) t v, Try.f12.params.toList[j]? = some t → args.toList[j]? = some v → Value.okWide Try.prog W .any base t v := fun j t v a b => hval1 j t v (by simpa using a) (by simpa using b)
  obtain ⟨rfl, rfl⟩ := trodVars_none hV
  have hB := hA
  rw [Try.params12] at hB
  obtain ⟨v0, vs0, d0, ds0, p0, q0, hv0, rfl, hp0, h0, r0⟩ := trodAll_cons hB
  obtain ⟨-, rfl, -⟩ := trodAll_nil r0
  obtain ⟨us, e1, k1⟩ := open_args (n := 8) (A := A_law03_SurdFloorByCompare) (by kernel_rfl) hval hA
  have e := e1 []
  rw [List.append_nil] at e
  obtain ⟨args⟩ := args
  simp only at e
  subst e
  clear hA0 hval0 hval1 e1
  simp only [List.append_nil] at hW'
  refine (law_calls (I := Inv) (F := L_law03_SurdFloorByCompare) (A := A_law03_SurdFloorByCompare) ok_law03_SurdFloorByCompare Try.call12 k1 (surdFloorByCompare_true us k1) (w := W) trivial).mono fun e W' ⟨he, hb⟩ => ?_
  subst he
  exact ⟨_, rfl, _, _, _, [], _, [], hW', trodAll_mk1 (shut_bool Try.underlying4 _), Below.trodAll Try.laidOut hb (by kernel_rfl) hA (fun x hx => hW'.lt x hx), rfl, hb.frame _, fun h => by cases h⟩

theorem surdFloorByCompare_holds : Rows.SurdFloorByCompareSaid :=
  OpenClaim.holds_of_wide 12 Try.f12 rfl rfl rfl rfl rfl rfl rfl ⟨rfl, rfl, rfl, rfl, rfl⟩ rfl rfl rfl rfl rfl (by kernel_rfl) Try.func12 (by kernel_rfl)
    (of_decide_eq_true (by kernel_rfl)) (by unfold Func.isWrapper; first | (rw [if_pos (by decide +kernel)]; kernel_rfl) | (rw [if_neg (by decide +kernel)]; exact ⟨rfl, rfl⟩))
    (fun os started H enc _ => surdFloorByCompare_lifted os started H enc)
#print axioms surdFloorByCompare_holds
end Go.Proofs.Ytjgbkjkckhaheaa
