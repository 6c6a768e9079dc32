/- compositorlaw12.GroupStaysValid: for every input the call returns true, and the arguments read as they did; the laid variables hold what the text gives them. THE TIED CARD. No condition. -/
import Derived.Test.YtjgmipklbpghfaaDoorRowBase
import Derived.Test.YtjgmipklbpghfaaDoorLawRow
import Derived.Test.YtjgmipklbpghfaaDoorLaid
import Derived.Test.YtjgmipklbpghfaaDoorCards
import Derived.Test.YtjgmipklbpghfaaDoorTie
import Derived.SevenTiedAt
import Derived.JoinedOf
import Derived.ChangeVars
import Derived.Test.YtjgmipklbpghfaaDoorLaw12b
namespace Go.Proofs.YtjgmipklbpghfaaDoor
open Go.ChangeShapes Go.WideShapes Go.ChangeAt Go.RowKit Go.Joins

theorem groupStaysValid_args (vs : List Value) (hk : KindsL (kindsL A_law12_GroupStaysValid) vs) : (packL A_law12_GroupStaysValid vs)[3]? = some (vs.getD 3 undef) ∧ (packL A_law12_GroupStaysValid vs)[4]? = some (vs.getD 4 undef) := by
  obtain ⟨_, _, rfl, ⟨p0, rfl⟩, _, _, rfl, ⟨p1, rfl⟩, _, _, rfl, ⟨p2, rfl⟩, p3, _, rfl, -, p4, _, rfl, -, _, _, rfl, ⟨p5, rfl, -, -⟩, _, _, rfl, ⟨p6, rfl, -, -⟩, _, _, rfl, ⟨p7, rfl, -, -⟩, _, _, rfl, ⟨p8, rfl, -, -⟩, _, _, rfl, ⟨p9, rfl, -, -⟩, _, _, rfl, ⟨p10, rfl, -, -⟩, _, _, rfl, ⟨p11, rfl, -, -⟩, _, _, rfl, ⟨p12, rfl, -, -⟩, _, _, rfl, ⟨p13, rfl, -, -⟩, _, _, rfl, ⟨p14, rfl, -, -⟩, _, _, rfl, ⟨p15, rfl, -, -⟩, _, _, rfl, ⟨p16, rfl, -, -⟩, rfl⟩ := hk
  exact ⟨rfl, rfl⟩
theorem groupStaysValid_true {mem : Cells} (vs : List Value) (hk : KindsL (kindsL A_law12_GroupStaysValid) vs) (s3 : sliceB mem K5 (vs.getD 3 undef) = true) (s4 : sliceB mem K1 (vs.getD 4 undef) = true) : pre_law12_GroupStaysValid mem vs = true ∧ tru ((L_law12_GroupStaysValid mem vs).getD 0 undef) = true := by
  obtain ⟨_, _, rfl, ⟨p0, rfl⟩, _, _, rfl, ⟨p1, rfl⟩, _, _, rfl, ⟨p2, rfl⟩, p3, _, rfl, -, p4, _, rfl, -, _, _, rfl, ⟨p5, rfl, -, -⟩, _, _, rfl, ⟨p6, rfl, -, -⟩, _, _, rfl, ⟨p7, rfl, -, -⟩, _, _, rfl, ⟨p8, rfl, -, -⟩, _, _, rfl, ⟨p9, rfl, -, -⟩, _, _, rfl, ⟨p10, rfl, -, -⟩, _, _, rfl, ⟨p11, rfl, -, -⟩, _, _, rfl, ⟨p12, rfl, -, -⟩, _, _, rfl, ⟨p13, rfl, -, -⟩, _, _, rfl, ⟨p14, rfl, -, -⟩, _, _, rfl, ⟨p15, rfl, -, -⟩, _, _, rfl, ⟨p16, rfl, -, -⟩, rfl⟩ := hk
  exact ⟨(Bool.and_eq_true _ _).mpr ⟨s3, s4⟩, groupStaysValid p0 p1 p2 s3 s4 p5 p6 p7 p8 p9 p10 p11 p12 p13 p14 p15 p16⟩

set_option maxRecDepth 100000 in
theorem groupStaysValid_lifted (os : Os) (started : os.Started) (H : Type) (enc : TypeId × Value → H) :
    ReturnsInHanded {} Tryd.checked os 8 .any (fun w args => (Rows.groupStaysValidSpec.pre enc Tryd.prog Tryd.f8 [] false w args ∧ laidMetH Tryd.prog laidHere w) ∧ sizedMet enc Tryd.prog Tryd.f8 (OpenSpec.ofChange Rows.groupStaysValidSpec) false w args)
      (Rows.groupStaysValidSpec.post enc Tryd.prog Tryd.f8 false true false false) := by
  refine returnsInHanded_of_change_and (C := Tryd.checked) (X := fun w _ => laidMetH Tryd.prog laidHere w) (fun _ _ _ hh h => h.of_heap hh) Tryd.own started (by kernel_rfl) Tryd.func8
    (ChangeSpec.witness_shaped (enc := enc) (C := Tryd.checked) (os := os) (X := fun w _ => laidMetH Tryd.prog laidHere w) false (World.laidAll Tryd.prog os laidHere) #[.bool false, .bool false, .bool false, .slice none 0 0, .slice none 0 0, .agg #[.int .i64 0, .int .i64 0, .int .i64 0, .int .i64 0, .int .i64 0], .agg #[.int .i64 0, .int .i64 0, .int .i64 0, .int .i64 0, .int .i64 0], .int .i64 0, .int .i64 0] 8 (World.laidAll_os _ _ _)
      (World.shaped_of_ZipB (by kernel_rfl) (by kernel_rfl)) (by kernel_rfl) (by kernel_rfl) (by kernel_rfl)
      (by rw [MakeChecks.laidMetH_plain _ _ _ (by kernel_rfl)]; exact laidMet_laidAll _ (by kernel_rfl) (by kernel_rfl))) ?_
  intro W base args ds gs before hval0 hW _ _ hL _
  have hval1 : ∀ (j : Nat) t v, Tryd.f8.params[j]? = some t → args[j]? = some v → Value.okWide Tryd.prog W .any base t v := hval0
  have hW' := hW
  obtain ⟨p, q, hA0, hV, rfl, hfz, hnd⟩ := hW
  have hA : DataW.TrodAll enc Tryd.prog W 0 (fun _ => true) true Tryd.f8.params.toList args.toList ds p := hA0
  have hval : ∀ (j : Nat) t v, Tryd.f8.params.toList[j]? = some t → args.toList[j]? = some v → Value.okWide Tryd.prog W .any base t v := fun j t v a b => hval1 j t v (by simpa using a) (by simpa using b)
  rw [MakeChecks.laidMetH_plain _ _ _ (by kernel_rfl)] at hL
  have hI := invN_of hL
  obtain ⟨rfl, rfl⟩ := trodVars_none hV
  have hB := hA
  rw [Tryd.params8] at hB
  obtain ⟨v0, vs0, d0, ds0, p0, q0, hv0, rfl, hp0, h0, r0⟩ := trodAll_cons hB
  obtain ⟨v1, vs1, d1, ds1, p1, q1, hv1, rfl, hp1, h1, r1⟩ := trodAll_cons r0
  obtain ⟨v2, vs2, d2, ds2, p2, q2, hv2, rfl, hp2, h2, r2⟩ := trodAll_cons r1
  obtain ⟨v3, vs3, d3, ds3, p3, q3, hv3, rfl, hp3, h3, r3⟩ := trodAll_cons r2
  obtain ⟨v4, vs4, d4, ds4, p4, q4, hv4, rfl, hp4, h4, r4⟩ := trodAll_cons r3
  obtain ⟨v5, vs5, d5, ds5, p5, q5, hv5, rfl, hp5, h5, r5⟩ := trodAll_cons r4
  obtain ⟨v6, vs6, d6, ds6, p6, q6, hv6, rfl, hp6, h6, r6⟩ := trodAll_cons r5
  obtain ⟨v7, vs7, d7, ds7, p7, q7, hv7, rfl, hp7, h7, r7⟩ := trodAll_cons r6
  obtain ⟨v8, vs8, d8, ds8, p8, q8, hv8, rfl, hp8, h8, r8⟩ := trodAll_cons r7
  obtain ⟨-, rfl, -⟩ := trodAll_nil r8
  obtain ⟨us, e1, k1⟩ := open_args (n := 8) (A := A_law12_GroupStaysValid) (by kernel_rfl) hval hA
  have e := e1 []
  rw [List.append_nil] at e
  have z := groupStaysValid_args us k1
  obtain ⟨z3, z4⟩ := z
  rw [← e] at z3 z4
  have y3 : v3 = us.getD 3 undef := Option.some.inj ((show args.toList[3]? = some v3 by rw [hv0, hv1, hv2, hv3]; rfl).symm.trans z3)
  have s3 : sliceB W.cell? K5 (us.getD 3 undef) = true := by
    rw [← y3]
    exact sliceB_of (n := 8) Tryd.underlying47 (by kernel_rfl) (by kernel_rfl) (by kernel_rfl) (hval 3 _ v3 (by rw [Tryd.params8]; rfl) (by rw [hv0, hv1, hv2, hv3]; rfl)) h3
  have y4 : v4 = us.getD 4 undef := Option.some.inj ((show args.toList[4]? = some v4 by rw [hv0, hv1, hv2, hv3, hv4]; rfl).symm.trans z4)
  have s4 : sliceB W.cell? K1 (us.getD 4 undef) = true := by
    rw [← y4]
    exact sliceB_of (n := 8) Tryd.underlying48 (by kernel_rfl) (by kernel_rfl) (by kernel_rfl) (hval 4 _ v4 (by rw [Tryd.params8]; rfl) (by rw [hv0, hv1, hv2, hv3, hv4]; rfl)) h4
  obtain ⟨args⟩ := args
  simp only at e
  subst e
  clear hA0 hval0 hval1 e1
  simp only [List.append_nil] at hW'
  refine (csum_calls (ok_law12_GroupStaysValid W.cell?) Tryd.call8 k1 (groupStaysValid_true us k1 s3 s4).1 (groupStaysValid_true us k1 s3 s4).2 (w := W) ⟨hI, fun _ _ h => h⟩).mono fun e W' ⟨he, hb⟩ => ?_
  subst he
  exact ⟨_, rfl, _, _, _, [], _, [], hW', trodAll_mk1 (shut_bool Tryd.underlying4 _), Below.trodAll Tryd.laidOut hb (by kernel_rfl) hA (fun x hx => hW'.lt x hx), rfl, hb.frame _, fun h => by cases h⟩

theorem groupStaysValid_holds : Rows.GroupStaysValidSaid :=
  OpenClaim.holds_of_wide 8 Tryd.f8 rfl rfl rfl rfl rfl rfl rfl ⟨rfl, rfl, rfl, rfl, rfl⟩ rfl rfl rfl rfl rfl (by kernel_rfl) Tryd.func8 (by kernel_rfl)
    (of_decide_eq_true (by kernel_rfl)) (by unfold Func.isWrapper; first | (rw [if_pos (by decide +kernel)]; kernel_rfl) | (rw [if_neg (by decide +kernel)]; exact ⟨rfl, rfl⟩))
    (fun os started H enc _ => groupStaysValid_lifted os started H enc)

theorem groupStaysValid_card_holds : Rows.GroupStaysValidCardSaid :=
  Claim7.holds_tied_plain_at .later [] [.data] true (true, "a1c86fa186cf64655435df650b7872228fd7099b99272b8cd478bd01f0020904") false groupStaysValid_holds (fun _ h => by cases h) (by kernel_rfl) (fun _ h => by cases h) groupStaysValid_row_tie rfl ⟨rfl, rfl⟩ (by kernel_rfl) rfl
    (fun f fn hf hfn => by
      obtain rfl : f = 8 := Option.some.inj ((show Tryd.prog.funcNamed "compositor/compositorlaw12.GroupStaysValid" = some 8 by kernel_rfl).symm.trans hf) |>.symm
      obtain rfl : fn = Tryd.f8 := (Option.some.inj (Tryd.func8.symm.trans hfn)).symm
      exact ⟨by kernel_rfl, fun j t ht => by
        have hm : t ∈ Tryd.f8.params.toList := by simpa using Array.mem_of_getElem? ht
        have hall : (Tryd.f8.params.toList.all fun u => !Tryd.prog.wantsStandIn u) = true := by kernel_rfl
        exact (show Tryd.prog.wantsStandIn t = false by simpa using List.all_eq_true.1 hall t hm)⟩)
    (by kernel_rfl)
#print axioms groupStaysValid_card_holds
end Go.Proofs.YtjgmipklbpghfaaDoor
