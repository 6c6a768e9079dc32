/- compositorlaw16.SpanRejects: for every input the call returns true, and the arguments read as they did; the laid variables hold what the text gives them. THE TIED CARD. No condition. -/
import Derived.Test.YtfjhhadmncjdiaaGreatDoorRowBase
import Derived.Test.YtfjhhadmncjdiaaGreatDoorLawRow
import Derived.Test.YtfjhhadmncjdiaaGreatDoorOpen
import Derived.Test.YtfjhhadmncjdiaaGreatDoorLaid
import Derived.Test.YtfjhhadmncjdiaaGreatDoorCards
import Derived.Test.YtfjhhadmncjdiaaGreatDoorTie
import Derived.SevenTiedAt
import Derived.JoinedOf
import Derived.ChangeVars
import Derived.Test.YtfjhhadmncjdiaaGreatDoorLaw16z
namespace Go.Proofs.YtfjhhadmncjdiaaGreatDoor
open Go.ChangeShapes Go.WideShapes Go.ChangeAt Go.RowKit Go.Joins

theorem spanRejects_true (vs : List Value) (hk : KindsL (kindsL A_law16_SpanRejects) vs) : tru ((L_law16_SpanRejects vs).getD 0 undef) = true := by
  obtain ⟨_, _, rfl, ⟨p0, rfl, l0, h0⟩, _, _, rfl, ⟨p1, rfl, l1, h1⟩, _, _, rfl, ⟨p2, rfl, l2, h2⟩, p3, _, rfl, k3, _, _, rfl, ⟨p4, rfl, l4, h4⟩, p5, _, rfl, k5, _, _, rfl, ⟨p6, rfl, l6, h6⟩, _, _, rfl, ⟨p7, rfl, l7, h7⟩, _, _, rfl, ⟨p8, rfl, l8, h8⟩, _, _, rfl, ⟨p9, rfl, l9, h9⟩, _, _, rfl, ⟨p10, rfl, l10, h10⟩, _, _, rfl, ⟨p11, rfl, l11, h11⟩, _, _, rfl, ⟨p12, rfl, l12, h12⟩, _, _, rfl, ⟨p13, rfl, l13, h13⟩, rfl⟩ := hk
  exact spanRejects p0 p1 p2 p3 p4 p5 p6 p7 p8 ⟨is16 l9 h9, is16 l10 h10, is16 l11 h11, is16 l12 h12, is16 l13 h13⟩

set_option maxRecDepth 100000 in
theorem spanRejects_lifted (os : Os) (started : os.Started) (H : Type) (enc : TypeId × Value → H) :
    ReturnsInHanded {} Tryz.checked os 3 .any (fun w args => (Rows.spanRejectsSpec.pre enc Tryz.prog Tryz.f3 [] false w args ∧ laidMetH Tryz.prog laidHere w) ∧ sizedMet enc Tryz.prog Tryz.f3 (OpenSpec.ofChange Rows.spanRejectsSpec) false w args)
      (Rows.spanRejectsSpec.post enc Tryz.prog Tryz.f3 false true false false) := by
  refine returnsInHanded_of_change_and (C := Tryz.checked) (X := fun w _ => laidMetH Tryz.prog laidHere w) (fun _ _ _ hh h => h.of_heap hh) Tryz.own started (by kernel_rfl) Tryz.func3
    (ChangeSpec.witness_shaped (enc := enc) (C := Tryz.checked) (os := os) (X := fun w _ => laidMetH Tryz.prog laidHere w) false (World.laidAll Tryz.prog os laidHere) #[.int .i64 0, .int .i64 0, .agg #[.int .i64 0, .slice none 0 0], .agg #[.int .i64 0, .slice none 0 0], .int .i64 0, .int .i64 0, .int .i64 0, .agg #[.int .u16 0, .int .u16 0, .int .u16 0, .int .u16 0, .int .u16 0]] 8 (World.laidAll_os _ _ _)
      (World.shaped_of_ZipB (by kernel_rfl) (by kernel_rfl)) (by kernel_rfl) (by kernel_rfl) (by kernel_rfl)
      (by rw [MakeChecks.laidMetH_plain _ _ _ (by kernel_rfl)]; exact laidMet_laidAll _ (by kernel_rfl) (by kernel_rfl))) ?_
  intro W base args ds gs before hval0 hW _ _ hL _
  have hval1 : ∀ (j : Nat) t v, Tryz.f3.params[j]? = some t → args[j]? = some v → Value.okWide Tryz.prog W .any base t v := hval0
  have hW' := hW
  obtain ⟨p, q, hA0, hV, rfl, hfz, hnd⟩ := hW
  have hA : DataW.TrodAll enc Tryz.prog W 0 (fun _ => true) true Tryz.f3.params.toList args.toList ds p := hA0
  have hval : ∀ (j : Nat) t v, Tryz.f3.params.toList[j]? = some t → args.toList[j]? = some v → Value.okWide Tryz.prog W .any base t v := fun j t v a b => hval1 j t v (by simpa using a) (by simpa using b)
  rw [MakeChecks.laidMetH_plain _ _ _ (by kernel_rfl)] at hL
  have hI := invN_of hL
  obtain ⟨rfl, rfl⟩ := trodVars_none hV
  have hB := hA
  rw [Tryz.params3] at hB
  obtain ⟨v0, vs0, d0, ds0, p0, q0, hv0, rfl, hp0, h0, r0⟩ := trodAll_cons hB
  obtain ⟨v1, vs1, d1, ds1, p1, q1, hv1, rfl, hp1, h1, r1⟩ := trodAll_cons r0
  obtain ⟨v2, vs2, d2, ds2, p2, q2, hv2, rfl, hp2, h2, r2⟩ := trodAll_cons r1
  obtain ⟨v3, vs3, d3, ds3, p3, q3, hv3, rfl, hp3, h3, r3⟩ := trodAll_cons r2
  obtain ⟨v4, vs4, d4, ds4, p4, q4, hv4, rfl, hp4, h4, r4⟩ := trodAll_cons r3
  obtain ⟨v5, vs5, d5, ds5, p5, q5, hv5, rfl, hp5, h5, r5⟩ := trodAll_cons r4
  obtain ⟨v6, vs6, d6, ds6, p6, q6, hv6, rfl, hp6, h6, r6⟩ := trodAll_cons r5
  obtain ⟨v7, vs7, d7, ds7, p7, q7, hv7, rfl, hp7, h7, r7⟩ := trodAll_cons r6
  obtain ⟨-, rfl, -⟩ := trodAll_nil r7
  obtain ⟨us, es, e1, k1⟩ := open_argsD (n := 8) (A := A_law16_SpanRejects) (by kernel_rfl) hval hA
  have e := e1 []
  rw [List.append_nil] at e
  obtain ⟨args⟩ := args
  simp only at e
  subst e
  clear hA0 hval0 hval1 e1
  simp only [List.append_nil] at hW'
  refine (list_calls (I := InvN) (F := L_law16_SpanRejects) (A := A_law16_SpanRejects) ok_law16_SpanRejects Tryz.call3 k1 (spanRejects_true es k1.kinds) hI).mono fun e W' ⟨he, hb⟩ => ?_
  subst he
  exact ⟨_, rfl, _, _, _, [], _, [], hW', trodAll_mk1 (shut_bool Tryz.underlying4 _), Below.trodAll Tryz.laidOut hb (by kernel_rfl) hA (fun x hx => hW'.lt x hx), rfl, hb.frame _, fun h => by cases h⟩

theorem spanRejects_holds : Rows.SpanRejectsSaid :=
  OpenClaim.holds_of_wide 3 Tryz.f3 rfl rfl rfl rfl rfl rfl rfl ⟨rfl, rfl, rfl, rfl, rfl⟩ rfl rfl rfl rfl rfl (by kernel_rfl) Tryz.func3 (by kernel_rfl)
    (of_decide_eq_true (by kernel_rfl)) (by unfold Func.isWrapper; first | (rw [if_pos (by decide +kernel)]; kernel_rfl) | (rw [if_neg (by decide +kernel)]; exact ⟨rfl, rfl⟩))
    (fun os started H enc _ => spanRejects_lifted os started H enc)

theorem spanRejects_card_holds : Rows.SpanRejectsCardSaid :=
  Claim7.holds_tied_plain_at .later [] [.data, .data] true (true, "98981061c3950dae5c7bbd51efc38e49dec192c475152a7c474b673853a45df9") false spanRejects_holds (fun _ h => by cases h) (by kernel_rfl) (fun _ h => by cases h) spanRejects_row_tie rfl ⟨rfl, rfl⟩ (by kernel_rfl) rfl
    (fun f fn hf hfn => by
      obtain rfl : f = 3 := Option.some.inj ((show Tryz.prog.funcNamed "compositor/compositorlaw16.SpanRejects" = some 3 by kernel_rfl).symm.trans hf) |>.symm
      obtain rfl : fn = Tryz.f3 := (Option.some.inj (Tryz.func3.symm.trans hfn)).symm
      exact ⟨by kernel_rfl, fun j t ht => by
        have hm : t ∈ Tryz.f3.params.toList := by simpa using Array.mem_of_getElem? ht
        have hall : (Tryz.f3.params.toList.all fun u => !Tryz.prog.wantsStandIn u) = true := by kernel_rfl
        exact (show Tryz.prog.wantsStandIn t = false by simpa using List.all_eq_true.1 hall t hm)⟩)
    (by kernel_rfl)
#print axioms spanRejects_card_holds
end Go.Proofs.YtfjhhadmncjdiaaGreatDoor
