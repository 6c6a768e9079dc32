/- compositorlaw02.WideSqrt: for every input the call returns true, and the arguments read as they did. No condition. -/
import Derived.Test.YtjgbkjkckhaheaaRowBase
import Derived.Test.YtjgbkjkckhaheaaWideSqrt
namespace Go.Proofs.Ytjgbkjkckhaheaa
open Go.ChangeShapes Go.WideShapes Go.ChangeAt Go.RowKit Go.Joins

set_option maxRecDepth 100000 in
theorem wideSqrt_lifted (os : Os) (started : os.Started) (H : Type) (enc : TypeId × Value → H) :
    ReturnsInHanded {} Try.checked os 3 .any (Rows.wideSqrtSpec.pre6 enc Try.prog Try.f3 Rows.wideSqrtRow.domain false) (Rows.wideSqrtSpec.post enc Try.prog Try.f3 false true false false) := by
  refine returnsInHanded_of_change (C := Try.checked) Try.own started (by kernel_rfl) Try.func3
    (ChangeSpec.witness6 (enc := enc) (C := Try.checked) false ⟨#[], #[.agg #[.int .u64 0, .int .u64 0], .int .u64 0, .int .i64 0], []⟩ 8 (by kernel_rfl) (by kernel_rfl) (by kernel_rfl) (by kernel_rfl)) ?_
  intro W base args ds gs before hval0 hW hcnd _
  have hval : ∀ (j : Nat) t v, Try.f3.params[j]? = some t → args[j]? = some v → Value.okWide Try.prog W .any base t v := hval0
  have hW' := hW
  obtain ⟨p, q, hA0, hV, rfl, hfz, hnd⟩ := hW
  have hA : DataW.TrodAll enc Try.prog W 0 (fun _ => true) true Try.f3.params.toList args.toList ds p := hA0
  rw [Try.params3] at hA hval
  obtain ⟨v0, v1, v2, d0, d1, d2, p0, p1, p2, rfl, rfl, rfl, h0, h1, h2⟩ := trodAll_three hA
  obtain ⟨rfl, rfl⟩ := trodVars_none hV
  obtain ⟨c0, c1, y0, y1, m, rfl, rfl, rfl, hy0, hy1⟩ := open_agg2 Try.underlying24 (by kernel_rfl) cellsU (hval 0 24 v0 rfl rfl) h0
  obtain ⟨ah, e0, rfl, w0⟩ := DataW.trod_int Try.underlying22 hy0
  obtain ⟨al, e1, rfl, w1⟩ := DataW.trod_int Try.underlying22 hy1
  simp at e0 e1
  subst e0 e1
  obtain ⟨n, rfl, rfl, rfl, wn⟩ := open_int Try.underlying22 (hval 1 22 v1 rfl rfl) h1
  obtain ⟨k, rfl, rfl, rfl, wk⟩ := open_int Try.underlying3 (hval 2 3 v2 rfl rfl) h2
  clear hA0 hval0
  simp only [List.append_nil] at hW'
  refine (lSqrt ah al n k (u64_of_wf w0) (u64_of_wf w1) (u64_of_wf wn) (i64_of_wf wk).1 (i64_of_wf wk).2 W).mono fun e W' ⟨he, hb⟩ => ?_
  subst he
  exact ⟨_, rfl, _, _, _, [], [], [], hW', trodAll_mk1 (shut_bool Try.underlying4 _),
    trodAll_mk3 (shut_agg2 (y0 := (.lit (.int .u64 ah), [])) (y1 := (.lit (.int .u64 al), [])) Try.underlying24 (by kernel_rfl) cellsU ⟨1, by simp [DataW.trod, Try.underlying22, w0]⟩ ⟨1, by simp [DataW.trod, Try.underlying22, w1]⟩) (shut_int Try.underlying22 wn) (shut_int Try.underlying3 wk),
    rfl, hb.frame _, fun h => by cases h⟩

theorem wideSqrt_holds : Rows.WideSqrtSaid :=
  OpenClaim.holds_of_wide 3 Try.f3 rfl rfl rfl rfl rfl rfl rfl ⟨rfl, rfl, rfl, rfl, rfl⟩ rfl rfl rfl rfl rfl (by kernel_rfl) Try.func3 (by kernel_rfl)
    (of_decide_eq_true (by kernel_rfl)) (by unfold Func.isWrapper; first | (rw [if_pos (by decide +kernel)]; kernel_rfl) | (rw [if_neg (by decide +kernel)]; exact ⟨rfl, rfl⟩))
    (fun os started H enc _ => wideSqrt_lifted os started H enc)
#print axioms wideSqrt_holds
end Go.Proofs.Ytjgbkjkckhaheaa
