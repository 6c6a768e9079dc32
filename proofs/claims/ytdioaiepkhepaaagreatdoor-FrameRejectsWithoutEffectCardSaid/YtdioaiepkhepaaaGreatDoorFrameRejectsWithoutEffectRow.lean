/- compositorlaw22.FrameRejectsWithoutEffect: for every input the call returns true, and the arguments read as they did; the laid variables hold what the text gives them. THE TIED CARD. No condition. -/
import Derived.Test.YtdioaiepkhepaaaGreatDoorRowBase
import Derived.Test.YtdioaiepkhepaaaGreatDoorLawRow
import Derived.Test.YtdioaiepkhepaaaGreatDoorOpen
import Derived.Test.YtdioaiepkhepaaaGreatDoorLaid
import Derived.Test.YtdioaiepkhepaaaGreatDoorCards
import Derived.Test.YtdioaiepkhepaaaGreatDoorTie
import Derived.SevenTiedAt
import Derived.JoinedOf
import Derived.ChangeVars
import Derived.Test.YtdioaiepkhepaaaGreatDoorLaw22R
namespace Go.Proofs.YtdioaiepkhepaaaGreatDoor
open Go.ChangeShapes Go.WideShapes Go.ChangeAt Go.RowKit Go.Joins
theorem frameRejectsWithoutEffect_true (vs : List Value) (hk : KindsL (kindsL A_law22_FR) vs) : tru ((L_law22_FR vs).getD 0 undef) = true := by
 obtain ⟨p0, _, rfl, k0, _, _, rfl, ⟨p1, rfl, l1, h1⟩, _, _, rfl, ⟨p2, rfl, l2, h2⟩, _, _, rfl, ⟨p3, rfl, l3, h3⟩, _, _, rfl, ⟨p4, rfl, l4, h4⟩, _, _, rfl, ⟨p5, rfl, l5, h5⟩, _, _, rfl, ⟨p6, rfl, l6, h6⟩, _, _, rfl, ⟨p7, rfl, l7, h7⟩, _, _, rfl, ⟨p8, rfl, l8, h8⟩, _, _, rfl, ⟨p9, rfl, l9, h9⟩, _, _, rfl, ⟨p10, rfl, l10, h10⟩, _, _, rfl, ⟨p11, rfl, l11, h11⟩, _, _, rfl, ⟨p12, rfl, l12, h12⟩, _, _, rfl, ⟨p13, rfl, l13, h13⟩, _, _, rfl, ⟨p14, rfl, l14, h14⟩, _, _, rfl, ⟨p15, rfl, l15, h15⟩, _, _, rfl, ⟨p16, rfl, l16, h16⟩, _, _, rfl, ⟨p17, rfl, l17, h17⟩, _, _, rfl, ⟨p18, rfl, l18, h18⟩, _, _, rfl, ⟨p19, rfl, l19, h19⟩, _, _, rfl, ⟨p20, rfl, l20, h20⟩, _, _, rfl, ⟨p21, rfl, l21, h21⟩, _, _, rfl, ⟨p22, rfl, l22, h22⟩, _, _, rfl, ⟨p23, rfl, l23, h23⟩, _, _, rfl, ⟨p24, rfl, l24, h24⟩, rfl⟩ := hk
 exact frameRejects k0 p1 p2 p3 p4 p5 p6 p7 p8 p9 p10 p11 p12 p13 p14 p15 p16 p17 p18 p19 p20 p21 p22 p23 p24
set_option maxRecDepth 100000 in
theorem frameRejectsWithoutEffect_lifted (os : Os) (started : os.Started) (H : Type) (enc : TypeId × Value → H) :
 ReturnsInHanded {} Tryz.checked os 4 .any (fun w args => (Rows.frameRejectsWithoutEffectSpec.pre enc Tryz.prog Tryz.f4 [] false w args ∧ laidMetH Tryz.prog laidHere w) ∧ sizedMet enc Tryz.prog Tryz.f4 (OpenSpec.ofChange Rows.frameRejectsWithoutEffectSpec) false w args)
  (Rows.frameRejectsWithoutEffectSpec.post enc Tryz.prog Tryz.f4 false true false false) := by
 refine returnsInHanded_of_change_and (C := Tryz.checked) (X := fun w _ => laidMetH Tryz.prog laidHere w) (fun _ _ _ hh h => h.of_heap hh) Tryz.own started (by kernel_rfl) Tryz.func4
  (ChangeSpec.witness_shaped (enc := enc) (C := Tryz.checked) (os := os) (X := fun w _ => laidMetH Tryz.prog laidHere w) false (World.laidAll Tryz.prog os laidHere) #[.slice none 0 0, .int .i64 0, .agg #[.int .i64 0, .int .i64 0, .int .i64 0, .int .i64 0, .int .i64 0, .int .i64 0, .int .i64 0, .int .i64 0, .int .i64 0, .int .i64 0, .int .i64 0, .int .i64 0, .int .i64 0, .int .i64 0, .int .i64 0, .int .i64 0, .int .i64 0, .int .i64 0, .int .u16 0, .int .u16 0, .int .u16 0, .int .u16 0, .int .u16 0]] 8 (World.laidAll_os _ _ _)
    (World.shaped_of_ZipB (by kernel_rfl) (by kernel_rfl)) (by kernel_rfl) (by kernel_rfl) (by kernel_rfl)
    (by rw [MakeChecks.laidMetH_plain _ _ _ (by kernel_rfl)]; exact laidMet_laidAll _ (by kernel_rfl) (by kernel_rfl))) ?_
 intro W base args ds gs before hval0 hW _ _ hL _
 have hval1 : ∀ (j : Nat) t v, Tryz.f4.params[j]? = some t → args[j]? = some v → Value.okWide Tryz.prog W .any base t v := hval0
 have hW' := hW
 obtain ⟨p, q, hA0, hV, rfl, hfz, hnd⟩ := hW
 have hA : DataW.TrodAll enc Tryz.prog W 0 (fun _ => true) true Tryz.f4.params.toList args.toList ds p := hA0
 have hval : ∀ (j : Nat) t v, Tryz.f4.params.toList[j]? = some t → args.toList[j]? = some v → Value.okWide Tryz.prog W .any base t v := fun j t v a b => hval1 j t v (by simpa using a) (by simpa using b)
 rw [MakeChecks.laidMetH_plain _ _ _ (by kernel_rfl)] at hL
 have hI := invN_of hL
 obtain ⟨rfl, rfl⟩ := trodVars_none hV
 have hB := hA
 rw [Tryz.params4] at hB
 obtain ⟨v0, vs0, d0, ds0, p0, q0, hv0, rfl, hp0, h0, r0⟩ := trodAll_cons hB
 obtain ⟨v1, vs1, d1, ds1, p1, q1, hv1, rfl, hp1, h1, r1⟩ := trodAll_cons r0
 obtain ⟨v2, vs2, d2, ds2, p2, q2, hv2, rfl, hp2, h2, r2⟩ := trodAll_cons r1
 obtain ⟨-, rfl, -⟩ := trodAll_nil r2
 obtain ⟨us, es, e1, k1⟩ := open_argsD (n := 8) (A := A_law22_FR) (by kernel_rfl) hval hA
 have e := e1 []
 rw [List.append_nil] at e
 obtain ⟨args⟩ := args
 simp only at e
 subst e
 clear hA0 hval0 hval1 e1
 simp only [List.append_nil] at hW'
 refine (list_calls (I := InvN) (F := L_law22_FR) (A := A_law22_FR) ok_law22_FR Tryz.call4 k1 (frameRejectsWithoutEffect_true es k1.kinds) hI).mono fun e W' ⟨he, hb⟩ => ?_
 subst he
 exact ⟨_, rfl, _, _, _, [], _, [], hW', trodAll_mk1 (shut_bool Tryz.underlying4 _), Below.trodAll Tryz.laidOut hb (by kernel_rfl) hA (fun x hx => hW'.lt x hx), rfl, hb.frame _, fun h => by cases h⟩
theorem frameRejectsWithoutEffect_holds : Rows.FrameRejectsWithoutEffectSaid :=
 OpenClaim.holds_of_wide 4 Tryz.f4 rfl rfl rfl rfl rfl rfl rfl ⟨rfl, rfl, rfl, rfl, rfl⟩ rfl rfl rfl rfl rfl (by kernel_rfl) Tryz.func4 (by kernel_rfl)
  (of_decide_eq_true (by kernel_rfl)) (by unfold Func.isWrapper; first | (rw [if_pos (by decide +kernel)]; kernel_rfl) | (rw [if_neg (by decide +kernel)]; exact ⟨rfl, rfl⟩))
  (fun os started H enc _ => frameRejectsWithoutEffect_lifted os started H enc)
theorem frameRejectsWithoutEffect_card_holds : Rows.FrameRejectsWithoutEffectCardSaid :=
 Claim7.holds_tied_plain_at .later [] [.data] true (true, "b47b8322e11eae82af89293bfcf454cd315f9883c52a0fc45b6079570b52b998") false frameRejectsWithoutEffect_holds (fun _ h => by cases h) (by kernel_rfl) (fun _ h => by cases h) frameRejectsWithoutEffect_row_tie rfl ⟨rfl, rfl⟩ (by kernel_rfl) rfl
  (fun f fn hf hfn => by
    obtain rfl : f = 4 := Option.some.inj ((show Tryz.prog.funcNamed "compositor/compositorlaw22.FrameRejectsWithoutEffect" = some 4 by kernel_rfl).symm.trans hf) |>.symm
    obtain rfl : fn = Tryz.f4 := (Option.some.inj (Tryz.func4.symm.trans hfn)).symm
    exact ⟨by kernel_rfl, fun j t ht => by
     have hm : t ∈ Tryz.f4.params.toList := by simpa using Array.mem_of_getElem? ht
     have hall : (Tryz.f4.params.toList.all fun u => !Tryz.prog.wantsStandIn u) = true := by kernel_rfl
     exact (show Tryz.prog.wantsStandIn t = false by simpa using List.all_eq_true.1 hall t hm)⟩)
  (by kernel_rfl)
#print axioms frameRejectsWithoutEffect_card_holds
end Go.Proofs.YtdioaiepkhepaaaGreatDoor
