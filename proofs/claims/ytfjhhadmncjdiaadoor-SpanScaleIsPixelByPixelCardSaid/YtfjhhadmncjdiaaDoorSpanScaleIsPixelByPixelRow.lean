/- compositorlaw16.SpanScaleIsPixelByPixel: for every input the call returns true, and the arguments read as they did; the laid variables hold what the text gives them. THE TIED CARD. No condition. -/
import Derived.Test.YtfjhhadmncjdiaaDoorRowBase
import Derived.Test.YtfjhhadmncjdiaaDoorLawRow
import Derived.Test.YtfjhhadmncjdiaaDoorOpen
import Derived.Test.YtfjhhadmncjdiaaDoorLaid
import Derived.Test.YtfjhhadmncjdiaaDoorCards
import Derived.Test.YtfjhhadmncjdiaaDoorTie
import Derived.SevenTiedAt
import Derived.JoinedOf
import Derived.ChangeVars
import Derived.Test.YtfjhhadmncjdiaaDoorLaw16
namespace Go.Proofs.YtfjhhadmncjdiaaDoor
open Go.ChangeShapes Go.WideShapes Go.ChangeAt Go.RowKit Go.Joins

theorem spanScaleIsPixelByPixel_true (vs : List Value) (hk : KindsL (kindsL A_law16_SpanScaleIsPixelByPixel) vs) : tru ((L_law16_SpanScaleIsPixelByPixel vs).getD 0 undef) = true := by
  obtain ⟨_, _, rfl, ⟨p0, rfl, l0, h0⟩, p1, _, rfl, k1, p2, _, rfl, k2, _, _, rfl, ⟨p3, rfl⟩, _, _, rfl, ⟨p4, rfl, l4, h4⟩, _, _, rfl, ⟨p5, rfl, l5, h5⟩, _, _, rfl, ⟨p6, rfl, l6, h6⟩, rfl⟩ := hk
  exact spanScaleIsPixelByPixel p0 p1 p2 p3 p4 p5 p6

set_option maxRecDepth 100000 in
theorem spanScaleIsPixelByPixel_lifted (os : Os) (started : os.Started) (H : Type) (enc : TypeId × Value → H) :
    ReturnsInHanded {} Tryd.checked os 5 .any (fun w args => (Rows.spanScaleIsPixelByPixelSpec.pre enc Tryd.prog Tryd.f5 [] false w args ∧ laidMetH Tryd.prog laidHere w) ∧ sizedMet enc Tryd.prog Tryd.f5 (OpenSpec.ofChange Rows.spanScaleIsPixelByPixelSpec) false w args)
      (Rows.spanScaleIsPixelByPixelSpec.post enc Tryd.prog Tryd.f5 false true false false) := by
  refine returnsInHanded_of_change_and (C := Tryd.checked) (X := fun w _ => laidMetH Tryd.prog laidHere w) (fun _ _ _ hh h => h.of_heap hh) Tryd.own started (by kernel_rfl) Tryd.func5
    (ChangeSpec.witness_shaped (enc := enc) (C := Tryd.checked) (os := os) (X := fun w _ => laidMetH Tryd.prog laidHere w) false (World.laidAll Tryd.prog os laidHere) #[.agg #[.int .i64 0, .slice none 0 0], .slice none 0 0, .bool false, .int .i64 0, .int .i64 0, .int .i64 0] 8 (World.laidAll_os _ _ _)
      (World.shaped_of_ZipB (by kernel_rfl) (by kernel_rfl)) (by kernel_rfl) (by kernel_rfl) (by kernel_rfl)
      (by rw [MakeChecks.laidMetH_plain _ _ _ (by kernel_rfl)]; exact laidMet_laidAll _ (by kernel_rfl) (by kernel_rfl))) ?_
  intro W base args ds gs before hval0 hW _ _ hL _
  have hval1 : ∀ (j : Nat) t v, Tryd.f5.params[j]? = some t → args[j]? = some v → Value.okWide Tryd.prog W .any base t v := hval0
  have hW' := hW
  obtain ⟨p, q, hA0, hV, rfl, hfz, hnd⟩ := hW
  have hA : DataW.TrodAll enc Tryd.prog W 0 (fun _ => true) true Tryd.f5.params.toList args.toList ds p := hA0
  have hval : ∀ (j : Nat) t v, Tryd.f5.params.toList[j]? = some t → args.toList[j]? = some v → Value.okWide Tryd.prog W .any base t v := fun j t v a b => hval1 j t v (by simpa using a) (by simpa using b)
  rw [MakeChecks.laidMetH_plain _ _ _ (by kernel_rfl)] at hL
  have hI := invN_of hL
  obtain ⟨rfl, rfl⟩ := trodVars_none hV
  have hB := hA
  rw [Tryd.params5] at hB
  obtain ⟨v0, vs0, d0, ds0, p0, q0, hv0, rfl, hp0, h0, r0⟩ := trodAll_cons hB
  obtain ⟨v1, vs1, d1, ds1, p1, q1, hv1, rfl, hp1, h1, r1⟩ := trodAll_cons r0
  obtain ⟨v2, vs2, d2, ds2, p2, q2, hv2, rfl, hp2, h2, r2⟩ := trodAll_cons r1
  obtain ⟨v3, vs3, d3, ds3, p3, q3, hv3, rfl, hp3, h3, r3⟩ := trodAll_cons r2
  obtain ⟨v4, vs4, d4, ds4, p4, q4, hv4, rfl, hp4, h4, r4⟩ := trodAll_cons r3
  obtain ⟨v5, vs5, d5, ds5, p5, q5, hv5, rfl, hp5, h5, r5⟩ := trodAll_cons r4
  obtain ⟨-, rfl, -⟩ := trodAll_nil r5
  obtain ⟨us, es, e1, k1⟩ := open_argsD (n := 8) (A := A_law16_SpanScaleIsPixelByPixel) (by kernel_rfl) hval hA
  have e := e1 []
  rw [List.append_nil] at e
  obtain ⟨args⟩ := args
  simp only at e
  subst e
  clear hA0 hval0 hval1 e1
  simp only [List.append_nil] at hW'
  refine (list_calls (I := InvN) (F := L_law16_SpanScaleIsPixelByPixel) (A := A_law16_SpanScaleIsPixelByPixel) ok_law16_SpanScaleIsPixelByPixel Tryd.call5 k1 (spanScaleIsPixelByPixel_true es k1.kinds) hI).mono fun e W' ⟨he, hb⟩ => ?_
  subst he
  exact ⟨_, rfl, _, _, _, [], _, [], hW', trodAll_mk1 (shut_bool Tryd.underlying4 _), Below.trodAll Tryd.laidOut hb (by kernel_rfl) hA (fun x hx => hW'.lt x hx), rfl, hb.frame _, fun h => by cases h⟩

theorem spanScaleIsPixelByPixel_holds : Rows.SpanScaleIsPixelByPixelSaid :=
  OpenClaim.holds_of_wide 5 Tryd.f5 rfl rfl rfl rfl rfl rfl rfl ⟨rfl, rfl, rfl, rfl, rfl⟩ rfl rfl rfl rfl rfl (by kernel_rfl) Tryd.func5 (by kernel_rfl)
    (of_decide_eq_true (by kernel_rfl)) (by unfold Func.isWrapper; first | (rw [if_pos (by decide +kernel)]; kernel_rfl) | (rw [if_neg (by decide +kernel)]; exact ⟨rfl, rfl⟩))
    (fun os started H enc _ => spanScaleIsPixelByPixel_lifted os started H enc)

theorem spanScaleIsPixelByPixel_card_holds : Rows.SpanScaleIsPixelByPixelCardSaid :=
  Claim7.holds_tied_plain_at .later [] [.data, .data] true (true, "f1515bd25338b69b5819184a1423610d0db4693a382396ef07a158399593cda7") false spanScaleIsPixelByPixel_holds (fun _ h => by cases h) (by kernel_rfl) (fun _ h => by cases h) spanScaleIsPixelByPixel_row_tie rfl ⟨rfl, rfl⟩ (by kernel_rfl) rfl
    (fun f fn hf hfn => by
      obtain rfl : f = 5 := Option.some.inj ((show Tryd.prog.funcNamed "compositor/compositorlaw16.SpanScaleIsPixelByPixel" = some 5 by kernel_rfl).symm.trans hf) |>.symm
      obtain rfl : fn = Tryd.f5 := (Option.some.inj (Tryd.func5.symm.trans hfn)).symm
      exact ⟨by kernel_rfl, fun j t ht => by
        have hm : t ∈ Tryd.f5.params.toList := by simpa using Array.mem_of_getElem? ht
        have hall : (Tryd.f5.params.toList.all fun u => !Tryd.prog.wantsStandIn u) = true := by kernel_rfl
        exact (show Tryd.prog.wantsStandIn t = false by simpa using List.all_eq_true.1 hall t hm)⟩)
    (by kernel_rfl)
#print axioms spanScaleIsPixelByPixel_card_holds
end Go.Proofs.YtfjhhadmncjdiaaDoor
