/- compositorlaw12.GroupIsolatedIsPlain: for every input the call returns true, and the arguments read as they did; the laid variables hold what the text gives them. THE TIED CARD. No condition. -/
import Derived.Test.YtjgmipklbpghfaaDoorRowBase
import Derived.Test.YtjgmipklbpghfaaDoorLawRow
import Derived.Test.YtjgmipklbpghfaaDoorLaid
import Derived.Test.YtjgmipklbpghfaaDoorCards
import Derived.Test.YtjgmipklbpghfaaDoorTie
import Derived.SevenTiedAt
import Derived.JoinedOf
import Derived.ChangeVars
import Derived.Test.YtjgmipklbpghfaaDoorLaw12b
namespace Go.Proofs.YtjgmipklbpghfaaDoor
open Go.ChangeShapes Go.WideShapes Go.ChangeAt Go.RowKit Go.Joins

theorem groupIsolatedIsPlain_args (vs : List Value) (hk : KindsL (kindsL A_law12_GroupIsolatedIsPlain) vs) : (packL A_law12_GroupIsolatedIsPlain vs)[0]? = some (vs.getD 0 undef) ∧ (packL A_law12_GroupIsolatedIsPlain vs)[1]? = some (vs.getD 1 undef) ∧ (packL A_law12_GroupIsolatedIsPlain vs)[2]? = some (vs.getD 2 undef) := by
  obtain ⟨p0, _, rfl, -, p1, _, rfl, -, p2, _, rfl, -, _, _, rfl, ⟨p3, rfl, -, -⟩, rfl⟩ := hk
  exact ⟨rfl, rfl, rfl⟩
theorem groupIsolatedIsPlain_true {mem : Cells} (vs : List Value) (hk : KindsL (kindsL A_law12_GroupIsolatedIsPlain) vs) (s0 : sliceB mem K5 (vs.getD 0 undef) = true) (s1 : sliceB mem K1 (vs.getD 1 undef) = true) (s2 : sliceB mem K1 (vs.getD 2 undef) = true) : pre_law12_GroupIsolatedIsPlain mem vs = true ∧ tru ((L_law12_GroupIsolatedIsPlain mem vs).getD 0 undef) = true := by
  obtain ⟨p0, _, rfl, -, p1, _, rfl, -, p2, _, rfl, -, _, _, rfl, ⟨p3, rfl, -, -⟩, rfl⟩ := hk
  exact ⟨(Bool.and_eq_true _ _).mpr ⟨(Bool.and_eq_true _ _).mpr ⟨s0, s1⟩, s2⟩, groupIsolatedIsPlain s0 s1 s2 p3⟩

set_option maxRecDepth 100000 in
theorem groupIsolatedIsPlain_lifted (os : Os) (started : os.Started) (H : Type) (enc : TypeId × Value → H) :
    ReturnsInHanded {} Tryd.checked os 11 .any (fun w args => (Rows.groupIsolatedIsPlainSpec.pre enc Tryd.prog Tryd.f11 [] false w args ∧ laidMetH Tryd.prog laidHere w) ∧ sizedMet enc Tryd.prog Tryd.f11 (OpenSpec.ofChange Rows.groupIsolatedIsPlainSpec) false w args)
      (Rows.groupIsolatedIsPlainSpec.post enc Tryd.prog Tryd.f11 false true false false) := by
  refine returnsInHanded_of_change_and (C := Tryd.checked) (X := fun w _ => laidMetH Tryd.prog laidHere w) (fun _ _ _ hh h => h.of_heap hh) Tryd.own started (by kernel_rfl) Tryd.func11
    (ChangeSpec.witness_shaped (enc := enc) (C := Tryd.checked) (os := os) (X := fun w _ => laidMetH Tryd.prog laidHere w) false (World.laidAll Tryd.prog os laidHere) #[.slice none 0 0, .slice none 0 0, .slice none 0 0, .int .i64 0] 8 (World.laidAll_os _ _ _)
      (World.shaped_of_ZipB (by kernel_rfl) (by kernel_rfl)) (by kernel_rfl) (by kernel_rfl) (by kernel_rfl)
      (by rw [MakeChecks.laidMetH_plain _ _ _ (by kernel_rfl)]; exact laidMet_laidAll _ (by kernel_rfl) (by kernel_rfl))) ?_
  intro W base args ds gs before hval0 hW _ _ hL _
  have hval1 : ∀ (j : Nat) t v, Tryd.f11.params[j]? = some t → args[j]? = some v → Value.okWide Tryd.prog W .any base t v := hval0
  have hW' := hW
  obtain ⟨p, q, hA0, hV, rfl, hfz, hnd⟩ := hW
  have hA : DataW.TrodAll enc Tryd.prog W 0 (fun _ => true) true Tryd.f11.params.toList args.toList ds p := hA0
  have hval : ∀ (j : Nat) t v, Tryd.f11.params.toList[j]? = some t → args.toList[j]? = some v → Value.okWide Tryd.prog W .any base t v := fun j t v a b => hval1 j t v (by simpa using a) (by simpa using b)
  rw [MakeChecks.laidMetH_plain _ _ _ (by kernel_rfl)] at hL
  have hI := invN_of hL
  obtain ⟨rfl, rfl⟩ := trodVars_none hV
  have hB := hA
  rw [Tryd.params11] at hB
  obtain ⟨v0, vs0, d0, ds0, p0, q0, hv0, rfl, hp0, h0, r0⟩ := trodAll_cons hB
  obtain ⟨v1, vs1, d1, ds1, p1, q1, hv1, rfl, hp1, h1, r1⟩ := trodAll_cons r0
  obtain ⟨v2, vs2, d2, ds2, p2, q2, hv2, rfl, hp2, h2, r2⟩ := trodAll_cons r1
  obtain ⟨v3, vs3, d3, ds3, p3, q3, hv3, rfl, hp3, h3, r3⟩ := trodAll_cons r2
  obtain ⟨-, rfl, -⟩ := trodAll_nil r3
  obtain ⟨us, e1, k1⟩ := open_args (n := 8) (A := A_law12_GroupIsolatedIsPlain) (by kernel_rfl) hval hA
  have e := e1 []
  rw [List.append_nil] at e
  have z := groupIsolatedIsPlain_args us k1
  obtain ⟨z0, z1, z2⟩ := z
  rw [← e] at z0 z1 z2
  have y0 : v0 = us.getD 0 undef := Option.some.inj ((show args.toList[0]? = some v0 by rw [hv0]; rfl).symm.trans z0)
  have s0 : sliceB W.cell? K5 (us.getD 0 undef) = true := by
    rw [← y0]
    exact sliceB_of (n := 8) Tryd.underlying47 (by kernel_rfl) (by kernel_rfl) (by kernel_rfl) (hval 0 _ v0 (by rw [Tryd.params11]; rfl) (by rw [hv0]; rfl)) h0
  have y1 : v1 = us.getD 1 undef := Option.some.inj ((show args.toList[1]? = some v1 by rw [hv0, hv1]; rfl).symm.trans z1)
  have s1 : sliceB W.cell? K1 (us.getD 1 undef) = true := by
    rw [← y1]
    exact sliceB_of (n := 8) Tryd.underlying48 (by kernel_rfl) (by kernel_rfl) (by kernel_rfl) (hval 1 _ v1 (by rw [Tryd.params11]; rfl) (by rw [hv0, hv1]; rfl)) h1
  have y2 : v2 = us.getD 2 undef := Option.some.inj ((show args.toList[2]? = some v2 by rw [hv0, hv1, hv2]; rfl).symm.trans z2)
  have s2 : sliceB W.cell? K1 (us.getD 2 undef) = true := by
    rw [← y2]
    exact sliceB_of (n := 8) Tryd.underlying48 (by kernel_rfl) (by kernel_rfl) (by kernel_rfl) (hval 2 _ v2 (by rw [Tryd.params11]; rfl) (by rw [hv0, hv1, hv2]; rfl)) h2
  obtain ⟨args⟩ := args
  simp only at e
  subst e
  clear hA0 hval0 hval1 e1
  simp only [List.append_nil] at hW'
  refine (csum_calls (ok_law12_GroupIsolatedIsPlain W.cell?) Tryd.call11 k1 (groupIsolatedIsPlain_true us k1 s0 s1 s2).1 (groupIsolatedIsPlain_true us k1 s0 s1 s2).2 (w := W) ⟨hI, fun _ _ h => h⟩).mono fun e W' ⟨he, hb⟩ => ?_
  subst he
  exact ⟨_, rfl, _, _, _, [], _, [], hW', trodAll_mk1 (shut_bool Tryd.underlying4 _), Below.trodAll Tryd.laidOut hb (by kernel_rfl) hA (fun x hx => hW'.lt x hx), rfl, hb.frame _, fun h => by cases h⟩

theorem groupIsolatedIsPlain_holds : Rows.GroupIsolatedIsPlainSaid :=
  OpenClaim.holds_of_wide 11 Tryd.f11 rfl rfl rfl rfl rfl rfl rfl ⟨rfl, rfl, rfl, rfl, rfl⟩ rfl rfl rfl rfl rfl (by kernel_rfl) Tryd.func11 (by kernel_rfl)
    (of_decide_eq_true (by kernel_rfl)) (by unfold Func.isWrapper; first | (rw [if_pos (by decide +kernel)]; kernel_rfl) | (rw [if_neg (by decide +kernel)]; exact ⟨rfl, rfl⟩))
    (fun os started H enc _ => groupIsolatedIsPlain_lifted os started H enc)

theorem groupIsolatedIsPlain_card_holds : Rows.GroupIsolatedIsPlainCardSaid :=
  Claim7.holds_tied_plain_at .later [] [.data] true (true, "a1c86fa186cf64655435df650b7872228fd7099b99272b8cd478bd01f0020904") false groupIsolatedIsPlain_holds (fun _ h => by cases h) (by kernel_rfl) (fun _ h => by cases h) groupIsolatedIsPlain_row_tie rfl ⟨rfl, rfl⟩ (by kernel_rfl) rfl
    (fun f fn hf hfn => by
      obtain rfl : f = 11 := Option.some.inj ((show Tryd.prog.funcNamed "compositor/compositorlaw12.GroupIsolatedIsPlain" = some 11 by kernel_rfl).symm.trans hf) |>.symm
      obtain rfl : fn = Tryd.f11 := (Option.some.inj (Tryd.func11.symm.trans hfn)).symm
      exact ⟨by kernel_rfl, fun j t ht => by
        have hm : t ∈ Tryd.f11.params.toList := by simpa using Array.mem_of_getElem? ht
        have hall : (Tryd.f11.params.toList.all fun u => !Tryd.prog.wantsStandIn u) = true := by kernel_rfl
        exact (show Tryd.prog.wantsStandIn t = false by simpa using List.all_eq_true.1 hall t hm)⟩)
    (by kernel_rfl)
#print axioms groupIsolatedIsPlain_card_holds
end Go.Proofs.YtjgmipklbpghfaaDoor
