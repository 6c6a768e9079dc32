/- Plain data opened: the arguments of a statement, cell by cell, of whatever plain type. No program. -/
import Derived.Test.YtdioaiepkhepaaaGreatDoorEvB
import Derived.ProofKit
import Derived.OpenShut
import Derived.ChangeMaps5
import Derived.Lib.SmallJoins
namespace Go.Proofs.YtdioaiepkhepaaaGreatDoor
open Go.ChangeShapes Go.WideShapes Go.ChangeAt Go.RowKit Go.Joins
section
variable {H : Type} {enc : TypeId × Value → H} {P : Program} {w : World} {base : Nat} {spare : Nat → Bool} {held : Bool}
theorem plainFs_ok {r : TypeId → Option (List SK)} {rd : TypeId → List Value → Option (DataW H × List MemPlace)} (ih : ∀ t κs cs y, r t = some κs → rd t cs = some y → KindsL κs cs) {cs : List Value} :
 ∀ {fs : List (Nat × TypeId)} {off : Nat} {κs : List SK}, plainFs P r off fs = some κs → (∀ f ∈ fs, ∃ y, rd f.2 ((cs.drop f.1).take (P.cellsOf f.2)) = some y) → (cs.drop off).length = κs.length → KindsL κs (cs.drop off)
 | [], off, κs, h, _, hl => by
  simp [plainFs] at h
  subst h
  exact List.eq_nil_of_length_eq_zero hl
 | f :: fs, off, κs, h, hy, hl => by
  simp only [plainFs] at h
  split at h
  ·rename_i κ0 h0
   split at h
   ·rename_i hc
    simp only [Option.map_eq_some_iff] at h
    obtain ⟨κ1, h1, rfl⟩ := h
    obtain ⟨y, hy0⟩ := hy f (List.mem_cons_self ..)
    have k0 := ih _ _ _ _ h0 hy0
    rw [hc.1, ← hc.2] at k0
    have hl1 : (cs.drop (off + κ0.length)).length = κ1.length := by
     simp only [List.length_drop, List.length_append] at hl ⊢
     omega
    have k1 := plainFs_ok ih h1 (fun g hg => hy g (List.mem_cons_of_mem _ hg)) hl1
    have e : cs.drop off = (cs.drop off).take κ0.length ++ cs.drop (off + κ0.length) := by
     rw [← List.drop_drop]
     exact (List.take_append_drop _ _).symm
    rw [e]
    exact k0.append k1
   ·cases h
  ·cases h
theorem mapM_some {α β : Type} {f : α → Option β} : ∀ {l : List α} {ys : List β}, l.mapM f = some ys → ∀ x ∈ l, ∃ y, f x = some y
 | [], _, _, x, hx => by cases hx
 | a :: l, ys, h, x, hx => by
  rw [List.mapM_cons] at h
  simp only [bind, Option.bind_eq_some_iff] at h
  obtain ⟨y, hy, zs, hz, -⟩ := h
  rcases List.mem_cons.1 hx with rfl | hx
  ·exact ⟨y, hy⟩
  ·exact mapM_some hz x hx
theorem plain_ok : ∀ (n : Nat) (t : TypeId) (κs : List SK), plainT P n t = some κs → ∀ (m : Nat) (cs : List Value) (x : DataW H × List MemPlace), DataW.trod enc P w base spare held m t cs = some x → KindsL κs cs
 | 0, _, _, h, _, _, _, _ => by cases h
 | n + 1, t, κs, h, 0, cs, x, hx => by cases hx
 | n + 1, t, κs, h, m + 1, cs, x, hx => by
  rw [DataW.trod_step] at hx
  unfold DataW.trodStep at hx
  simp only [plainT] at h
  have ih := fun t κs cs y (a : plainT P n t = some κs) b => plain_ok n t κs a m cs y b
  split at h
  ·rename_i hu
   cases h
   simp only [hu] at hx
   split at hx <;> simp_all
   exact ⟨_, [], rfl, ⟨_, rfl⟩, rfl⟩
  ·rename_i k hu
   cases h
   simp only [hu] at hx
   split at hx <;> simp_all
   rename_i hw
   obtain ⟨⟨rfl, hw⟩, -⟩ := hx
   simp [Lit.wf] at hw
   exact ⟨_, [], rfl, ⟨_, rfl, hw⟩, rfl⟩
  ·rename_i hu
   cases h
   simp only [hu] at hx
   split at hx <;> simp_all
   exact ⟨_, [], rfl, ⟨_, rfl⟩, rfl⟩
  ·rename_i fs hu
   simp only [hu] at hx
   split at h
   ·rename_i κ0 h0
    split at h
    ·rename_i hl
     cases h
     split at hx
     ·rename_i hlen
      simp only [Option.map_eq_some_iff] at hx
      obtain ⟨ys, hy, -⟩ := hx
      have := plainFs_ok (cs := cs) ih h0 (fun f hf => by
       obtain ⟨g, hg, rfl⟩ := List.mem_map.1 hf
       exact mapM_some hy g hg) (by rw [List.drop_zero, hlen, hl])
      simpa using this
     ·cases hx
    ·cases h
   ·cases h
  ·rename_i k e hu
   simp only [hu] at hx
   split at h
   ·rename_i κ0 h0
    split at h
    ·rename_i hl
     cases h
     split at hx
     ·rename_i hlen
      simp only [Option.map_eq_some_iff] at hx
      obtain ⟨ys, hy, -⟩ := hx
      have := plainFs_ok (cs := cs) ih h0 (fun f hf => by
       obtain ⟨g, hg, rfl⟩ := List.mem_map.1 hf
       exact mapM_some hy g hg) (by rw [List.drop_zero, hlen, hl])
      simpa using this
     ·cases hx
    ·cases h
   ·cases h
  ·cases h
end
theorem Below.trodAll {H : Type} {enc : TypeId × Value → H} {P : Program} (hl : laidOutB P = true) {W W' : World} (hb : Below W.heap.size W W') :
 ∀ {ts : List TypeId} {vs : List Value} {ds : List (DataW H)} {ps : List MemPlace}, (ts.all fun t => P.readableRec t && decide (t < P.types.size)) = true → DataW.TrodAll enc P W 0 (fun _ => true) true ts vs ds ps → (∀ x ∈ ps, x.block < W.heap.size) →
  DataW.TrodAll enc P W' 0 (fun b => decide (b < W.heap.size)) true ts vs ds ps
 | [], vs, ds, ps, _, ht, _ => by
  obtain ⟨rfl, rfl, rfl⟩ := trodAll_nil ht
  exact trodAll_mk0
 | t :: ts, vs, ds, ps, h, ht, hlt => by
  simp only [List.all_cons, Bool.and_eq_true, decide_eq_true_eq] at h
  obtain ⟨v, vs, d, ds, q, q', rfl, rfl, rfl, t1, t2⟩ := trodAll_cons ht
  exact trodAll_cons_mk (Below.trod hl h.1.1 h.1.2 t1 hb (fun x hx => hlt x (List.mem_append_left _ hx))) (Below.trodAll hl hb h.2 t2 (fun x hx => hlt x (List.mem_append_right _ hx)))
end Go.Proofs.YtdioaiepkhepaaaGreatDoor
