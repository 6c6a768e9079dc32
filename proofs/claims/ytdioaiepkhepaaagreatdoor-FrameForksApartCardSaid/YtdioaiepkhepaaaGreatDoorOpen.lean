/- The arguments of a statement opened, slices among them: what they read as. No program. -/
import Derived.Test.YtdioaiepkhepaaaGreatDoorLawRow
import Derived.Test.YtdioaiepkhepaaaGreatDoorGround
import Derived.Deep.Slices
namespace Go.Proofs.YtdioaiepkhepaaaGreatDoor
open Go.ChangeShapes Go.WideShapes Go.ChangeAt Go.RowKit Go.Joins
def deepT (P : Program) : Nat → TypeId → Option (List SK)
 | 0, _ => none
 | n + 1, t =>
  match P.underlying t with
  | some .bool => some [.b]
  | some (.int k) => some [.i k]
  | some .string => some [.s]
  | some (.slice e) => match plainT P n e with
   | some κs => if κs.length = P.cellsOf e ∧ κs.all isPl = true then some [.l κs] else none
   | none => none
  | some (.struct fs) => match plainFs P (deepT P n) 0 (fs.toList.map fun f => (f.offset, f.type)) with
   | some κs => if κs.length = P.cellsOf t then some κs else none
   | none => none
  | some (.array m e) => match plainFs P (deepT P n) 0 ((List.range m).map fun i => (i * P.cellsOf e, e)) with
   | some κs => if κs.length = P.cellsOf t then some κs else none
   | none => none
  | _ => none
def psOfD (P : Program) (n : Nat) (t : TypeId) : Option PS :=
 match P.underlying t with
 | some .bool => some (.c .b)
 | some (.int k) => some (.c (.i k))
 | some .string => some (.c .s)
 | some (.slice e) => match plainT P n e with
  | some κs => if κs.length = P.cellsOf e ∧ κs.all isPl = true then some (.c (.l κs)) else none
  | none => none
 | some (.struct _) => (deepT P n t).map .agg
 | some (.array _ _) => (deepT P n t).map .agg
 | _ => none
def psAllD (P : Program) (n : Nat) : List TypeId → Option (List PS)
 | [] => some []
 | t :: ts => match psOfD P n t, psAllD P n ts with
  | some p, some ps => some (p :: ps)
  | _, _ => none
section
variable {H : Type} {enc : TypeId × Value → H} {P : Program} {w : World} {base : Nat} {spare : Nat → Bool} {held : Bool}
theorem deepFs_ok {mem : Addr → Option Value} {r : TypeId → Option (List SK)} {rd : TypeId → List Value → Option (DataW H × List MemPlace)} (ih : ∀ t κs cs y, r t = some κs → rd t cs = some y → ∃ ds, RdKs mem κs cs ds) {cs : List Value} :
 ∀ {fs : List (Nat × TypeId)} {off : Nat} {κs : List SK}, plainFs P r off fs = some κs → (∀ f ∈ fs, ∃ y, rd f.2 ((cs.drop f.1).take (P.cellsOf f.2)) = some y) → (cs.drop off).length = κs.length → ∃ ds, RdKs mem κs (cs.drop off) ds
 | [], off, κs, h, _, hl => by
  simp [plainFs] at h
  subst h
  refine ⟨[], ?_⟩
  simp only [RdKs]
  exact ⟨List.eq_nil_of_length_eq_zero hl, trivial⟩
 | f :: fs, off, κs, h, hy, hl => by
  simp only [plainFs] at h
  split at h
  ·rename_i κ0 h0
   split at h
   ·rename_i hc
    simp only [Option.map_eq_some_iff] at h
    obtain ⟨κ1, h1, rfl⟩ := h
    obtain ⟨y, hy0⟩ := hy f (List.mem_cons_self ..)
    obtain ⟨d0, k0⟩ := ih _ _ _ _ h0 hy0
    rw [hc.1, ← hc.2] at k0
    have hl1 : (cs.drop (off + κ0.length)).length = κ1.length := by
     simp only [List.length_drop, List.length_append] at hl ⊢
     omega
    obtain ⟨d1, k1⟩ := deepFs_ok ih h1 (fun g hg => hy g (List.mem_cons_of_mem _ hg)) hl1
    have e : cs.drop off = (cs.drop off).take κ0.length ++ cs.drop (off + κ0.length) := by
     rw [← List.drop_drop]
     exact (List.take_append_drop _ _).symm
    rw [e]
    exact ⟨_, k0.append k1⟩
   ·cases h
  ·cases h
theorem slice_rd {t e : TypeId} {κs : List SK} {n m : Nat} {cs : List Value} {x : DataW H × List MemPlace} (hu : P.underlying t = some (.slice e)) (hp : plainT P n e = some κs) (hl : κs.length = P.cellsOf e ∧ κs.all isPl = true) (hx : DataW.trod enc P w base spare held m t cs = some x) :
 ∃ v d, cs = [v] ∧ RdK w.cell? (.l κs) v d := by
 rcases Go.Deep.open_slice hu hx with ⟨rfl, -⟩ | ⟨a, len, cap, m', n', D, Pl, rfl, -, hlc, hcm, hm', -, hx⟩
 ·refine ⟨_, .agg #[], rfl, ?_⟩
  simp only [RdK]
  exact ⟨none, 0, 0, [], rfl, rfl, rfl, by omega, Nat.le_refl _, fun _ => rfl, fun i e he => by simp at he⟩
 ·have V : ∀ i, ∃ cs' : List Value, i < len → (∀ j u, cs'[j]? = some u → w.cell? ((a.add (i * κs.length)).add j) = some u) ∧ KindsL κs cs' := fun i => by
   by_cases hi : i < len
   ·obtain ⟨cs', h1, h2⟩ := hx i (by rw [hm']; split <;> omega)
    have k := plain_ok n e κs hp _ _ _ h2
    refine ⟨cs', fun _ => ⟨fun j u hj => ?_, k⟩⟩
    rw [← hl.1] at h1
    obtain ⟨-, hlen, hcell⟩ := World.cells?_some h1
    rw [hcell j (by have := (List.getElem?_eq_some_iff.1 hj).1; omega), hj]
   ·exact ⟨[], fun h => absurd h hi⟩
  obtain ⟨f, hf⟩ := Classical.skolem.1 V
  refine ⟨_, .agg ((List.range len).map fun i => Value.agg (f i).toArray).toArray, rfl, ?_⟩
  simp only [RdK]
  refine ⟨some a, len, cap, _, rfl, rfl, by simp, by simp only [maxLen] at hcm; omega, hlc, (fun h => by cases h), fun i e he => ?_⟩
  rw [List.getElem?_map] at he
  by_cases hi : i < len
  ·rw [List.getElem?_range hi] at he
   simp only [Option.map_some, Option.some.injEq] at he
   exact ⟨a, f i, f i, rfl, he.symm, (hf i hi).1, RdKs.of_plain hl.2 (hf i hi).2⟩
  ·rw [List.getElem?_eq_none (by simpa using hi)] at he
   cases he
theorem deep_ok : ∀ (n : Nat) (t : TypeId) (κs : List SK), deepT P n t = some κs → ∀ (m : Nat) (cs : List Value) (x : DataW H × List MemPlace), DataW.trod enc P w base spare held m t cs = some x → ∃ ds, RdKs w.cell? κs cs ds
 | 0, _, _, h, _, _, _, _ => by cases h
 | n + 1, t, κs, h, 0, cs, x, hx => by cases hx
 | n + 1, t, κs, h, m + 1, cs, x, hx => by
  have hx0 := hx
  rw [DataW.trod_step] at hx
  unfold DataW.trodStep at hx
  simp only [deepT] at h
  have ih := fun t κs cs (y : DataW H × List MemPlace) (a : deepT P n t = some κs) b => deep_ok n t κs a m cs y b
  split at h
  ·rename_i hu
   cases h
   simp only [hu] at hx
   split at hx <;> simp_all
   exact ⟨_, RdKs.of_plain rfl ⟨_, [], rfl, (inKind_pl (κ := .b) rfl).2 ⟨_, rfl⟩, rfl⟩⟩
  ·rename_i k hu
   cases h
   simp only [hu] at hx
   split at hx <;> simp_all
   rename_i hw
   obtain ⟨⟨rfl, hw⟩, -⟩ := hx
   simp [Lit.wf] at hw
   exact ⟨_, RdKs.of_plain rfl ⟨_, [], rfl, (inKind_pl (κ := .i _) rfl).2 ⟨_, rfl, hw⟩, rfl⟩⟩
  ·rename_i hu
   cases h
   simp only [hu] at hx
   split at hx <;> simp_all
   exact ⟨_, RdKs.of_plain rfl ⟨_, [], rfl, (inKind_pl (κ := .s) rfl).2 ⟨_, rfl⟩, rfl⟩⟩
  ·rename_i e hu
   split at h
   ·rename_i κ0 h0
    split at h
    ·rename_i hl
     cases h
     obtain ⟨v, d, rfl, k⟩ := slice_rd hu h0 hl hx0
     refine ⟨[d], ?_⟩
     simp only [RdKs]
     exact ⟨v, [], d, [], rfl, rfl, k, rfl, rfl⟩
    ·cases h
   ·cases h
  ·rename_i fs hu
   simp only [hu] at hx
   split at h
   ·rename_i κ0 h0
    split at h
    ·rename_i hl
     cases h
     split at hx
     ·rename_i hlen
      simp only [Option.map_eq_some_iff] at hx
      obtain ⟨ys, hy, -⟩ := hx
      have := deepFs_ok (cs := cs) ih h0 (fun f hf => by
       obtain ⟨g, hg, rfl⟩ := List.mem_map.1 hf
       exact mapM_some hy g hg) (by rw [List.drop_zero, hlen, hl])
      simpa using this
     ·cases hx
    ·cases h
   ·cases h
  ·rename_i k e hu
   simp only [hu] at hx
   split at h
   ·rename_i κ0 h0
    split at h
    ·rename_i hl
     cases h
     split at hx
     ·rename_i hlen
      simp only [Option.map_eq_some_iff] at hx
      obtain ⟨ys, hy, -⟩ := hx
      have := deepFs_ok (cs := cs) ih h0 (fun f hf => by
       obtain ⟨g, hg, rfl⟩ := List.mem_map.1 hf
       exact mapM_some hy g hg) (by rw [List.drop_zero, hlen, hl])
      simpa using this
     ·cases hx
    ·cases h
   ·cases h
  ·cases h
theorem open_deep {r : Reach} {b0 n : Nat} {t : TypeId} {p : PS} {v : Value} {d : DataW H} {ps : List MemPlace} (hp : psOfD P n t = some p) (hv : Value.okWide P w r b0 t v) (h : DataW.Trod enc P w base spare held t v d ps) :
 ∃ vs ds, (∀ rest, v = p.pack (vs ++ rest)) ∧ RdKs w.cell? p.kinds vs ds := by
 have hT := h
 obtain ⟨m, hm⟩ := h
 unfold psOfD at hp
 split at hp
 ·rename_i hu
  cases hp
  obtain ⟨x, rfl, -, -⟩ := open_bool hu hv hT
  exact ⟨[.bool x], _, fun _ => rfl, RdKs.of_plain rfl ⟨_, [], rfl, (inKind_pl (κ := .b) rfl).2 ⟨_, rfl⟩, rfl⟩⟩
 ·rename_i k hu
  cases hp
  obtain ⟨x, rfl, -, -, hw⟩ := open_int hu hv hT
  simp [Lit.wf] at hw
  exact ⟨[.int k x], _, fun _ => rfl, RdKs.of_plain rfl ⟨_, [], rfl, (inKind_pl (κ := .i _) rfl).2 ⟨_, rfl, hw⟩, rfl⟩⟩
 ·rename_i hu
  cases hp
  obtain ⟨x, rfl, -, -, -⟩ := Go.ChangeMaps.open_string hu hv hT
  exact ⟨[.string x], _, fun _ => rfl, RdKs.of_plain rfl ⟨_, [], rfl, (inKind_pl (κ := .s) rfl).2 ⟨_, rfl⟩, rfl⟩⟩
 ·rename_i e hu
  split at hp
  ·rename_i κ0 h0
   split at hp
   ·rename_i hl
    cases hp
    obtain ⟨a, len, cap, rfl⟩ := Go.WideShapes.okWide_slice hu hv
    obtain ⟨v, d, e1, k⟩ := slice_rd hu h0 hl hm
    obtain rfl : Value.slice a len cap = v := by simpa [Value.cells] using e1
    refine ⟨[_], [d], fun _ => rfl, ?_⟩
    simp only [PS.kinds, RdKs]
    exact ⟨_, [], d, [], rfl, rfl, k, rfl, rfl⟩
   ·cases hp
  ·cases hp
 ·rename_i fs hu
  unfold Value.okWide at hv
  simp only [hu] at hv
  obtain ⟨cs, rfl, -, -⟩ := hv
  simp only [Option.map_eq_some_iff] at hp
  obtain ⟨κs, h1, rfl⟩ := hp
  obtain ⟨ds, k⟩ := deep_ok n t κs h1 m _ _ hm
  refine ⟨cs.toList, ds, fun rest => ?_, k⟩
  simp only [PS.pack]
  rw [List.take_left' (show cs.toList.length = κs.length from k.length.1)]
 ·rename_i fs hu
  unfold Value.okWide at hv
  simp only [hu] at hv
  obtain ⟨cs, rfl, -, -⟩ := hv
  simp only [Option.map_eq_some_iff] at hp
  obtain ⟨κs, h1, rfl⟩ := hp
  obtain ⟨ds, k⟩ := deep_ok n t κs h1 m _ _ hm
  refine ⟨cs.toList, ds, fun rest => ?_, k⟩
  simp only [PS.pack]
  rw [List.take_left' (show cs.toList.length = κs.length from k.length.1)]
 ·cases hp
theorem open_argsD {r : Reach} {b0 n : Nat} : ∀ {ts : List TypeId} {A : List PS} {vs : List Value} {ds : List (DataW H)} {ps : List MemPlace}, psAllD P n ts = some A → (∀ (j : Nat) t v, ts[j]? = some t → vs[j]? = some v → Value.okWide P w r b0 t v) → DataW.TrodAll enc P w base spare held ts vs ds ps →
 ∃ us es, (∀ rest, vs = packL A (us ++ rest)) ∧ RdKs w.cell? (kindsL A) us es
 | [], A, vs, ds, ps, h, _, ht => by
  simp [psAllD] at h
  subst h
  obtain ⟨rfl, -, -⟩ := trodAll_nil ht
  refine ⟨[], [], fun _ => rfl, ?_⟩
  simp only [kindsL, RdKs]
  exact ⟨trivial, trivial⟩
 | t :: ts, A, vs, ds, ps, h, hv, ht => by
  simp only [psAllD] at h
  split at h
  ·rename_i p A' h1 h2
   cases h
   obtain ⟨v, vs, d, ds, q, q', rfl, rfl, rfl, t1, t2⟩ := trodAll_cons ht
   obtain ⟨us, es, e1, k1⟩ := open_deep h1 (hv 0 t v rfl rfl) t1
   obtain ⟨us', es', e2, k2⟩ := open_argsD h2 (fun j t v a b => hv (j + 1) t v (by simpa using a) (by simpa using b)) t2
   refine ⟨us ++ us', es ++ es', fun rest => ?_, k1.append k2⟩
   simp only [packL]
   rw [List.append_assoc, ← e1, List.drop_left' k1.length.1, ← e2]
  ·cases h
end
theorem list_calls {P : Program} {I : World → Prop} {f : FuncId} {F : List Value → List Value} {A : List PS} (h : SumOK P I ⟨f, F, A, .one (.c .b)⟩) (hc : ∀ args w, (callFunc f args).run P w = .ok (.enter f args) w) {vs es : List Value} {w : World} (hk : RdKs w.cell? (kindsL A) vs es) (ht : tru ((F es).getD 0 undef) = true) (hw : I w) :
 Calls P f (packL A vs).toArray w (RetV (.bool true) w) := by
 rcases h es vs w hw hk with ⟨-, h2⟩ | ⟨v, h1, -⟩
 ·refine h2.mono ?_
  rintro e w' ⟨v, rfl, rs, rfl, hr, hb⟩
  refine ⟨?_, hb⟩
  obtain ⟨e, k⟩ := ResKs.plain (κs := [.b]) rfl hr
  subst e
  simp only at k ⊢
  generalize F es = l at *
  simp only [KindsL] at k
  obtain ⟨_, _, rfl, hb, rfl⟩ := k
  obtain ⟨b, rfl⟩ := (inKind_pl (κ := .b) rfl).1 hb
  have : b = true := ht
  subst this
  rfl
 ·rw [hc] at h1; cases h1
end Go.Proofs.YtdioaiepkhepaaaGreatDoor
