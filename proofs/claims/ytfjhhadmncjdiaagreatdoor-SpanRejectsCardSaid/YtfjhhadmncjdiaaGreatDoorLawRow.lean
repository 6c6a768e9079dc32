/- From an evaluated statement to its call. -/
import Derived.Test.YtfjhhadmncjdiaaGreatDoorPlain
import Derived.Test.YtfjhhadmncjdiaaGreatDoorFloorE
namespace Go.Proofs.YtfjhhadmncjdiaaGreatDoor
open Go.RowKit
theorem law_calls {P : Program} {I : World → Prop} {f : FuncId} {F : List Value → List Value} {A : List PS} (h : SumOK P I ⟨f, F, A, .one (.c .b)⟩) (hc : ∀ args w, (callFunc f args).run P w = .ok (.enter f args) w) {vs : List Value} (hk : KindsL (kindsL A) vs) (ht : tru ((F vs).getD 0 undef) = true) {w : World} (hw : I w) (hA : (kindsL A).all isPl = true := by rfl) :
    Calls P f (packL A vs).toArray w (RetV (.bool true) w) := by
  refine (sumCalls h hc rfl rfl hk hw hA rfl).mono ?_
  rintro e w' ⟨rfl, k, hb⟩
  refine ⟨?_, hb⟩
  generalize F vs = l at *
  obtain ⟨_, _, rfl, ⟨b, rfl⟩, rfl⟩ := k
  have : b = true := ht
  subst this
  rfl
end Go.Proofs.YtfjhhadmncjdiaaGreatDoor
