/- compositorlaw22.FrameNil: for every input the call returns true, and the arguments read as they did; the laid variables hold what the text gives them. THE TIED CARD. No condition. -/
import Derived.Test.YtdioaiepkhepaaaDoorRowBase
import Derived.Test.YtdioaiepkhepaaaDoorLawRow
import Derived.Test.YtdioaiepkhepaaaDoorLaid
import Derived.Test.YtdioaiepkhepaaaDoorCards
import Derived.Test.YtdioaiepkhepaaaDoorTie
import Derived.SevenTiedAt
import Derived.JoinedOf
import Derived.ChangeVars
import Derived.Test.YtdioaiepkhepaaaDoorLaw22n
namespace Go.Proofs.YtdioaiepkhepaaaDoor
open Go.ChangeShapes Go.WideShapes Go.ChangeAt Go.RowKit Go.Joins

theorem frameNil_true (vs : List Value) (hk : KindsL (kindsL A_law22_FrameNil) vs) : tru ((L_law22_FrameNil vs).getD 0 undef) = true := by
  obtain ⟨_, _, rfl, ⟨p0, rfl, l0, h0⟩, _, _, rfl, ⟨p1, rfl, l1, h1⟩, _, _, rfl, ⟨p2, rfl, l2, h2⟩, _, _, rfl, ⟨p3, rfl, l3, h3⟩, _, _, rfl, ⟨p4, rfl, l4, h4⟩, _, _, rfl, ⟨p5, rfl, l5, h5⟩, _, _, rfl, ⟨p6, rfl, l6, h6⟩, _, _, rfl, ⟨p7, rfl, l7, h7⟩, _, _, rfl, ⟨p8, rfl, l8, h8⟩, _, _, rfl, ⟨p9, rfl, l9, h9⟩, _, _, rfl, ⟨p10, rfl⟩, _, _, rfl, ⟨p11, rfl⟩, _, _, rfl, ⟨p12, rfl, l12, h12⟩, _, _, rfl, ⟨p13, rfl, l13, h13⟩, _, _, rfl, ⟨p14, rfl, l14, h14⟩, _, _, rfl, ⟨p15, rfl, l15, h15⟩, _, _, rfl, ⟨p16, rfl, l16, h16⟩, _, _, rfl, ⟨p17, rfl, l17, h17⟩, rfl⟩ := hk
  exact frameNil p0 p1 p2 p3 p4 p5 p6 p7 p8 p9 p10 p11 p12 p13 p14 p15 p16 p17

set_option maxRecDepth 100000 in
theorem frameNil_lifted (os : Os) (started : os.Started) (H : Type) (enc : TypeId × Value → H) :
    ReturnsInHanded {} Tryd.checked os 6 .any (fun w args => (Rows.frameNilSpec.pre enc Tryd.prog Tryd.f6 [] false w args ∧ laidMetH Tryd.prog laidHere w) ∧ sizedMet enc Tryd.prog Tryd.f6 (OpenSpec.ofChange Rows.frameNilSpec) false w args)
      (Rows.frameNilSpec.post enc Tryd.prog Tryd.f6 false true false false) := by
  refine returnsInHanded_of_change_and (C := Tryd.checked) (X := fun w _ => laidMetH Tryd.prog laidHere w) (fun _ _ _ hh h => h.of_heap hh) Tryd.own started (by kernel_rfl) Tryd.func6
    (ChangeSpec.witness_shaped (enc := enc) (C := Tryd.checked) (os := os) (X := fun w _ => laidMetH Tryd.prog laidHere w) false (World.laidAll Tryd.prog os laidHere) #[.agg #[.int .i64 0, .int .i64 0, .int .i64 0, .int .i64 0, .int .i64 0, .int .i64 0, .int .i64 0, .int .u16 0, .int .i64 0, .int .i64 0, .bool false, .bool false], .agg #[.int .u16 0, .int .u16 0, .int .u16 0, .int .u16 0, .int .u16 0], .int .u16 0] 8 (World.laidAll_os _ _ _)
      (World.shaped_of_ZipB (by kernel_rfl) (by kernel_rfl)) (by kernel_rfl) (by kernel_rfl) (by kernel_rfl)
      (by rw [MakeChecks.laidMetH_plain _ _ _ (by kernel_rfl)]; exact laidMet_laidAll _ (by kernel_rfl) (by kernel_rfl))) ?_
  intro W base args ds gs before hval0 hW _ _ hL _
  have hval1 : ∀ (j : Nat) t v, Tryd.f6.params[j]? = some t → args[j]? = some v → Value.okWide Tryd.prog W .any base t v := hval0
  have hW' := hW
  obtain ⟨p, q, hA0, hV, rfl, hfz, hnd⟩ := hW
  have hA : DataW.TrodAll enc Tryd.prog W 0 (fun _ => true) true Tryd.f6.params.toList args.toList ds p := hA0
  have hval : ∀ (j : Nat) t v, Tryd.f6.params.toList[j]? = some t → args.toList[j]? = some v → Value.okWide Tryd.prog W .any base t v := fun j t v a b => hval1 j t v (by simpa using a) (by simpa using b)
  rw [MakeChecks.laidMetH_plain _ _ _ (by kernel_rfl)] at hL
  have hI := invN_of hL
  obtain ⟨rfl, rfl⟩ := trodVars_none hV
  have hB := hA
  rw [Tryd.params6] at hB
  obtain ⟨v0, vs0, d0, ds0, p0, q0, hv0, rfl, hp0, h0, r0⟩ := trodAll_cons hB
  obtain ⟨v1, vs1, d1, ds1, p1, q1, hv1, rfl, hp1, h1, r1⟩ := trodAll_cons r0
  obtain ⟨v2, vs2, d2, ds2, p2, q2, hv2, rfl, hp2, h2, r2⟩ := trodAll_cons r1
  obtain ⟨-, rfl, -⟩ := trodAll_nil r2
  obtain ⟨us, e1, k1⟩ := open_args (n := 8) (A := A_law22_FrameNil) (by kernel_rfl) hval hA
  have e := e1 []
  rw [List.append_nil] at e
  obtain ⟨args⟩ := args
  simp only at e
  subst e
  clear hA0 hval0 hval1 e1
  simp only [List.append_nil] at hW'
  refine (law_calls (I := InvN) (F := L_law22_FrameNil) (A := A_law22_FrameNil) ok_law22_FrameNil Tryd.call6 k1 (frameNil_true us k1) (w := W) hI).mono fun e W' ⟨he, hb⟩ => ?_
  subst he
  exact ⟨_, rfl, _, _, _, [], _, [], hW', trodAll_mk1 (shut_bool Tryd.underlying4 _), Below.trodAll Tryd.laidOut hb (by kernel_rfl) hA (fun x hx => hW'.lt x hx), rfl, hb.frame _, fun h => by cases h⟩

theorem frameNil_holds : Rows.FrameNilSaid :=
  OpenClaim.holds_of_wide 6 Tryd.f6 rfl rfl rfl rfl rfl rfl rfl ⟨rfl, rfl, rfl, rfl, rfl⟩ rfl rfl rfl rfl rfl (by kernel_rfl) Tryd.func6 (by kernel_rfl)
    (of_decide_eq_true (by kernel_rfl)) (by unfold Func.isWrapper; first | (rw [if_pos (by decide +kernel)]; kernel_rfl) | (rw [if_neg (by decide +kernel)]; exact ⟨rfl, rfl⟩))
    (fun os started H enc _ => frameNil_lifted os started H enc)

theorem frameNil_card_holds : Rows.FrameNilCardSaid :=
  Claim7.holds_tied_plain_at .later [] [.data] true (true, "448a7ab209b65a7d57ff30de12ce45947b8befadc5fc0ea41447c289a4fcb6ec") false frameNil_holds (fun _ h => by cases h) (by kernel_rfl) (fun _ h => by cases h) frameNil_row_tie rfl ⟨rfl, rfl⟩ (by kernel_rfl) rfl
    (fun f fn hf hfn => by
      obtain rfl : f = 6 := Option.some.inj ((show Tryd.prog.funcNamed "compositor/compositorlaw22.FrameNil" = some 6 by kernel_rfl).symm.trans hf) |>.symm
      obtain rfl : fn = Tryd.f6 := (Option.some.inj (Tryd.func6.symm.trans hfn)).symm
      exact ⟨by kernel_rfl, fun j t ht => by
        have hm : t ∈ Tryd.f6.params.toList := by simpa using Array.mem_of_getElem? ht
        have hall : (Tryd.f6.params.toList.all fun u => !Tryd.prog.wantsStandIn u) = true := by kernel_rfl
        exact (show Tryd.prog.wantsStandIn t = false by simpa using List.all_eq_true.1 hall t hm)⟩)
    (by kernel_rfl)
#print axioms frameNil_card_holds
end Go.Proofs.YtdioaiepkhepaaaDoor
