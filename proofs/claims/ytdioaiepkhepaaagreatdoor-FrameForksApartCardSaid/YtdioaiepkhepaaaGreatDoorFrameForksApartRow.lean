/- compositorlaw22.FrameForksApart: for every input the call returns true, and the arguments read as they did; the laid variables hold what the text gives them. THE TIED CARD. No condition. -/
import Derived.Test.YtdioaiepkhepaaaGreatDoorRowBase
import Derived.Test.YtdioaiepkhepaaaGreatDoorLawRow
import Derived.Test.YtdioaiepkhepaaaGreatDoorOpen
import Derived.Test.YtdioaiepkhepaaaGreatDoorLaid
import Derived.Test.YtdioaiepkhepaaaGreatDoorCards
import Derived.Test.YtdioaiepkhepaaaGreatDoorTie
import Derived.SevenTiedAt
import Derived.JoinedOf
import Derived.ChangeVars
import Derived.Test.YtdioaiepkhepaaaGreatDoorLaw22F
namespace Go.Proofs.YtdioaiepkhepaaaGreatDoor
open Go.ChangeShapes Go.WideShapes Go.ChangeAt Go.RowKit Go.Joins
theorem frameForksApart_true (vs : List Value) (hk : KindsL (kindsL A_law22_FF) vs) : tru ((L_law22_FF vs).getD 0 undef) = true := by
 obtain ⟨p0, _, rfl, k0, p1, _, rfl, k1, _, _, rfl, ⟨p2, rfl, l2, h2⟩, rfl⟩ := hk
 exact frameForks k0 k1 p2
set_option maxRecDepth 100000 in
theorem frameForksApart_lifted (os : Os) (started : os.Started) (H : Type) (enc : TypeId × Value → H) :
 ReturnsInHanded {} Tryz.checked os 5 .any (fun w args => (Rows.frameForksApartSpec.pre enc Tryz.prog Tryz.f5 [] false w args ∧ laidMetH Tryz.prog laidHere w) ∧ sizedMet enc Tryz.prog Tryz.f5 (OpenSpec.ofChange Rows.frameForksApartSpec) false w args)
  (Rows.frameForksApartSpec.post enc Tryz.prog Tryz.f5 false true false false) := by
 refine returnsInHanded_of_change_and (C := Tryz.checked) (X := fun w _ => laidMetH Tryz.prog laidHere w) (fun _ _ _ hh h => h.of_heap hh) Tryz.own started (by kernel_rfl) Tryz.func5
  (ChangeSpec.witness_shaped (enc := enc) (C := Tryz.checked) (os := os) (X := fun w _ => laidMetH Tryz.prog laidHere w) false (World.laidAll Tryz.prog os laidHere) #[.slice none 0 0, .slice none 0 0, .int .i64 0] 8 (World.laidAll_os _ _ _)
    (World.shaped_of_ZipB (by kernel_rfl) (by kernel_rfl)) (by kernel_rfl) (by kernel_rfl) (by kernel_rfl)
    (by rw [MakeChecks.laidMetH_plain _ _ _ (by kernel_rfl)]; exact laidMet_laidAll _ (by kernel_rfl) (by kernel_rfl))) ?_
 intro W base args ds gs before hval0 hW _ _ hL _
 have hval1 : ∀ (j : Nat) t v, Tryz.f5.params[j]? = some t → args[j]? = some v → Value.okWide Tryz.prog W .any base t v := hval0
 have hW' := hW
 obtain ⟨p, q, hA0, hV, rfl, hfz, hnd⟩ := hW
 have hA : DataW.TrodAll enc Tryz.prog W 0 (fun _ => true) true Tryz.f5.params.toList args.toList ds p := hA0
 have hval : ∀ (j : Nat) t v, Tryz.f5.params.toList[j]? = some t → args.toList[j]? = some v → Value.okWide Tryz.prog W .any base t v := fun j t v a b => hval1 j t v (by simpa using a) (by simpa using b)
 rw [MakeChecks.laidMetH_plain _ _ _ (by kernel_rfl)] at hL
 have hI := invN_of hL
 obtain ⟨rfl, rfl⟩ := trodVars_none hV
 have hB := hA
 rw [Tryz.params5] at hB
 obtain ⟨v0, vs0, d0, ds0, p0, q0, hv0, rfl, hp0, h0, r0⟩ := trodAll_cons hB
 obtain ⟨v1, vs1, d1, ds1, p1, q1, hv1, rfl, hp1, h1, r1⟩ := trodAll_cons r0
 obtain ⟨v2, vs2, d2, ds2, p2, q2, hv2, rfl, hp2, h2, r2⟩ := trodAll_cons r1
 obtain ⟨-, rfl, -⟩ := trodAll_nil r2
 obtain ⟨us, es, e1, k1⟩ := open_argsD (n := 8) (A := A_law22_FF) (by kernel_rfl) hval hA
 have e := e1 []
 rw [List.append_nil] at e
 obtain ⟨args⟩ := args
 simp only at e
 subst e
 clear hA0 hval0 hval1 e1
 simp only [List.append_nil] at hW'
 refine (list_calls (I := InvN) (F := L_law22_FF) (A := A_law22_FF) ok_law22_FF Tryz.call5 k1 (frameForksApart_true es k1.kinds) hI).mono fun e W' ⟨he, hb⟩ => ?_
 subst he
 exact ⟨_, rfl, _, _, _, [], _, [], hW', trodAll_mk1 (shut_bool Tryz.underlying4 _), Below.trodAll Tryz.laidOut hb (by kernel_rfl) hA (fun x hx => hW'.lt x hx), rfl, hb.frame _, fun h => by cases h⟩
theorem frameForksApart_holds : Rows.FrameForksApartSaid :=
 OpenClaim.holds_of_wide 5 Tryz.f5 rfl rfl rfl rfl rfl rfl rfl ⟨rfl, rfl, rfl, rfl, rfl⟩ rfl rfl rfl rfl rfl (by kernel_rfl) Tryz.func5 (by kernel_rfl)
  (of_decide_eq_true (by kernel_rfl)) (by unfold Func.isWrapper; first | (rw [if_pos (by decide +kernel)]; kernel_rfl) | (rw [if_neg (by decide +kernel)]; exact ⟨rfl, rfl⟩))
  (fun os started H enc _ => frameForksApart_lifted os started H enc)
theorem frameForksApart_card_holds : Rows.FrameForksApartCardSaid :=
 Claim7.holds_tied_plain_at .later [] [.data] true (true, "b47b8322e11eae82af89293bfcf454cd315f9883c52a0fc45b6079570b52b998") false frameForksApart_holds (fun _ h => by cases h) (by kernel_rfl) (fun _ h => by cases h) frameForksApart_row_tie rfl ⟨rfl, rfl⟩ (by kernel_rfl) rfl
  (fun f fn hf hfn => by
    obtain rfl : f = 5 := Option.some.inj ((show Tryz.prog.funcNamed "compositor/compositorlaw22.FrameForksApart" = some 5 by kernel_rfl).symm.trans hf) |>.symm
    obtain rfl : fn = Tryz.f5 := (Option.some.inj (Tryz.func5.symm.trans hfn)).symm
    exact ⟨by kernel_rfl, fun j t ht => by
     have hm : t ∈ Tryz.f5.params.toList := by simpa using Array.mem_of_getElem? ht
     have hall : (Tryz.f5.params.toList.all fun u => !Tryz.prog.wantsStandIn u) = true := by kernel_rfl
     exact (show Tryz.prog.wantsStandIn t = false by simpa using List.all_eq_true.1 hall t hm)⟩)
  (by kernel_rfl)
#print axioms frameForksApart_card_holds
end Go.Proofs.YtdioaiepkhepaaaGreatDoor
