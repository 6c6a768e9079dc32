/- The symbolic evaluator: a region that draws its order is sound, whatever is drawn. No condition. -/
import Derived.Test.YtiooegkbkahppaaDoorEv9
namespace Go.Proofs.YtiooegkbkahppaaDoor
open Go.RowKit

section
variable {P : Program} {rec : Rec} {B : Nat} {w0 : World} (hB : B ≤ w0.heap.size) {S : List Sum} {ops : Array Oper} {st : Nat → St} {acc : Nat → Option Nat}

/-- Memory in the middle of a region: each block stands as it does ahead of the next store into it. -/
def Mem (B : Nat) (ops : Array Oper) (acc : Nat → Option Nat) (st : Nat → St) (L : Array Bool) (ρ : Rho) (w : World) : Prop :=
  ∃ v : Nat → Nat, (∀ n, v n ≤ ops.size) ∧ (∀ n, v n < ops.size → StoreAt ops acc (v n) n ∧ L.getD (v n) false = false) ∧ (∀ n j, j < v n → StoreAt ops acc j n → L.getD j false = true) ∧
    ∀ n b, find (st (v n)).H n = some b → BRel B ρ w n b

structure Jn (B : Nat) (w0 : World) (ops : Array Oper) (acc : Nat → Option Nat) (st : Nat → St) (ρ0 : Rho) (L : Array Bool) (ρ : Rho) (a : Act) (w : World) : Prop where
  ext : Ext ρ0 ρ
  size : L.size = ops.size
  down : ∀ k o, ops[k]? = some o → L.getD k false = true → ∀ e ∈ o.after, Region.binds .any e = true → L.getD e.on false = true
  tsz : a.tmps.size = (st 0).T.length
  done : ∀ j o t sv, ops[j]? = some o → o.dst = some t → L.getD j false = true → (st ops.size).T[t]? = some sv → ∃ v, a.tmps[t]? = some v ∧ VRel ρ sv v
  todo : ∀ t sv, (∀ j o, ops[j]? = some o → o.dst = some t → L.getD j false = false) → (st 0).T[t]? = some sv → ∃ v, a.tmps[t]? = some v ∧ VRel ρ sv v
  nam : NRel ρ w
  mem : Mem B ops acc st L ρ w
  below : Below B w0 w
  defers : a.defers = []
  fr : ∀ j, j < ops.size → L.getD j false = false → (st j).nx < (st (j + 1)).nx → ρ (st j).nx = none
  fr2 : ∀ m, (st ops.size).nx ≤ m → ρ m = none

variable (F : Facts B w0 P ops st acc) (hd : apartD (ops.toList.map (·.dst)) = true)

theorem getD_set {L : Array Bool} {i j : Nat} (hi : i < L.size) : (L.setIfInBounds i true).getD j false = if j = i then true else L.getD j false := by
  split
  · rename_i e; subst e; simp [hi]
  · rename_i e; exact getD_set_ne false (fun e' => e e'.symm)

include F hd
theorem Jn.next {ρ0 : Rho} {L : Array Bool} {ρ ρ' : Rho} {a : Act} {w w' : World} (J : Jn B w0 ops acc st ρ0 L ρ a w) {i : Nat} {o : Oper} (ho : ops[i]? = some o) (hpre : ∀ e ∈ o.after, Region.binds .any e = true → L.getD e.on false = true)
    {v : SV} {x : Value} (hT : (st (i + 1)).T = putT (st i).T o.dst v) (hv : VRel ρ' v x) (hx : Ext ρ ρ') (hnm : NRel ρ' w') (hm : Mem B ops acc st (L.setIfInBounds i true) ρ' w') (hb : Below B w0 w')
    (hfr : ∀ m, ρ m = none → ((st i).nx < (st (i + 1)).nx → m ≠ (st i).nx) → ρ' m = none) : Jn B w0 ops acc st ρ0 (L.setIfInBounds i true) ρ' (a.put o.dst x) w' := by
  have hi : i < ops.size := (Array.getElem?_eq_some_iff.1 ho).1
  have hiL : i < L.size := by rw [J.size]; exact hi
  have dst_eq : ∀ j o', ops[j]? = some o' → ∀ t, o'.dst = some t → o.dst = some t → j = i := fun j o' hj t h1 h2 =>
    apartD_spec hd j i t (by simp [hj, h1]) (by simp [ho, h2])
  refine ⟨J.ext.trans hx, by simp [J.size], fun k o' hk hL e he hbn => ?_, ?_, fun j o' t sv hj hdst hL hs => ?_, fun t sv hn hs => ?_, hnm, hm, hb, put_defers _ _ J.defers, fun j hj hL hlt => ?_, fun m hm' => ?_⟩
  · rw [getD_set hiL] at hL ⊢
    split
    · rfl
    · split at hL
      · rename_i e; subst e; rw [ho] at hk; cases hk; exact hpre e he hbn
      · exact J.down k o' hk hL e he hbn
  · rw [← J.tsz]; cases o.dst <;> simp [Act.put]
  · by_cases e : j = i
    · subst e
      rw [ho] at hj
      cases hj
      have hk := F.keep (i := j + 1) (k := ops.size - (j + 1)) (t := t) (by omega) (fun k o' h1 h2 hk hdk => by have := dst_eq k o' hk t hdk hdst; omega)
      rw [show j + 1 + (ops.size - (j + 1)) = ops.size by omega] at hk
      rw [hk, hT, hdst] at hs
      simp only [putT] at hs
      have hlt : t < (st j).T.length := by
        rcases Nat.lt_or_ge t (st j).T.length with h | h
        · exact h
        · rw [List.getElem?_eq_none (by simpa using h)] at hs; simp at hs
      rw [List.getElem?_set_self hlt] at hs
      simp at hs
      subst hs
      refine ⟨x, ?_, hv⟩
      rw [hdst]
      simp only [Act.put]
      have : t < a.tmps.size := by rw [J.tsz, ← F.len (i := j) (by omega)]; exact hlt
      simp [this]
    · rw [getD_set hiL, if_neg e] at hL
      obtain ⟨u, hu, hr⟩ := J.done j o' t sv hj hdst hL hs
      refine ⟨u, ?_, VRel.mono hx hr⟩
      cases hod : o.dst with
      | none => exact hu
      | some d =>
        simp only [Act.put]
        rw [Array.getElem?_setIfInBounds_ne (fun e' => e (dst_eq j o' hj t hdst (by rw [hod, e'])))]
        exact hu
  · have hnd : o.dst ≠ some t := fun e => by
      have := hn i o ho e
      rw [getD_set hiL, if_pos rfl] at this
      exact Bool.noConfusion this
    obtain ⟨u, hu, hr⟩ := J.todo t sv (fun j o' hj hdst => by
      have := hn j o' hj hdst
      rw [getD_set hiL] at this
      split at this
      · exact Bool.noConfusion this
      · exact this) hs
    refine ⟨u, ?_, VRel.mono hx hr⟩
    cases hod : o.dst with
    | none => exact hu
    | some d =>
      simp only [Act.put]
      rw [Array.getElem?_setIfInBounds_ne (fun e' => hnd (by rw [hod, e']))]
      exact hu
  · rw [getD_set hiL] at hL
    split at hL
    · exact Bool.noConfusion hL
    · rename_i e
      refine hfr _ (J.fr j hj hL hlt) fun hlt' heq => ?_
      rcases Nat.lt_or_ge j i with h | h
      · have := F.nx_mono (i := j + 1) (k := i) (by omega) (by omega); omega
      · have := F.nx_mono (i := i + 1) (k := j) (by omega) (by omega); omega
  · refine hfr m (J.fr2 m hm') fun hlt' heq => ?_
    have := F.nx_mono (i := i + 1) (k := ops.size) (by omega) (Nat.le_refl _)
    omega

variable (hh : hangs (ops.toList.map (·.dst)) ops 0 [] ops.toList = true)
  (hst : ∀ s j n, StoreAt ops acc s n → j < ops.size → acc j = some n → (j < s → ((masks [] ops.toList).getD s 0).testBit j = true) ∧ (s < j → ((masks [] ops.toList).getD j 0).testBit s = true))
  (h0 : ∀ n b, find (st 0).H n = some b → n < (st 0).nx)
include hB hh hst h0

omit hB hd hh hst in
theorem Jn.last {ρ0 : Rho} {L : Array Bool} {ρ : Rho} {a : Act} {w : World} (J : Jn B w0 ops acc st ρ0 L ρ a w) (hall : ∀ j, j < ops.size → L.getD j false = true) : StRel B w0 ρ (st ops.size) a w := by
  have hmem : HRel B ρ (st ops.size).H w := by
    obtain ⟨v, h1, h2, h3, h4⟩ := J.mem
    refine ⟨J.nam.lt, J.nam.inj, fun n b x hb hx => h4 n b ?_ x hx⟩
    have : v n = ops.size := by
      rcases Nat.lt_or_ge (v n) ops.size with hlt | hge
      · obtain ⟨_, hL⟩ := h2 n hlt
        rw [hall _ hlt] at hL
        exact Bool.noConfusion hL
      · have := h1 n; omega
    rw [this]
    exact hb
  refine ⟨?_, hmem, J.below, J.fr2, F.names h0 (Nat.le_refl _), J.defers⟩
  have key : ∀ (T : List SV) (vs : List Value), T.length = vs.length → (∀ (t : Nat) (sv : SV), T[t]? = some sv → ∃ v, vs[t]? = some v ∧ VRel ρ sv v) → VsRel ρ T vs := by
    intro T
    induction T with
    | nil => intro vs hl _; cases vs with
      | nil => trivial
      | cons v vs => simp at hl
    | cons s T ih => intro vs hl hk; cases vs with
      | nil => simp at hl
      | cons v vs =>
        obtain ⟨u, hu, hr⟩ := hk 0 s rfl
        simp at hu
        subst hu
        exact ⟨hr, ih vs (by simpa using hl) fun t sv ht => by simpa using hk (t + 1) sv (by simpa using ht)⟩
  refine key _ _ (by rw [F.len (Nat.le_refl _), ← J.tsz]; simp) fun t sv ht => ?_
  classical
  by_cases h : ∃ (j : Nat) (o : Oper), ops[j]? = some o ∧ o.dst = some t
  · obtain ⟨j, o, hj, hdst⟩ := h
    obtain ⟨v, hv, hr⟩ := J.done j o t sv hj hdst (hall j (Array.getElem?_eq_some_iff.1 hj).1) ht
    exact ⟨v, by simpa using hv, hr⟩
  · have hk := F.keep (i := 0) (k := ops.size) (t := t) (by omega) (fun j o _ _ hj hdst => h ⟨j, o, hj, hdst⟩)
    simp only [Nat.zero_add] at hk
    rw [hk] at ht
    obtain ⟨v, hv, hr⟩ := J.todo t sv (fun j o hj hdst => absurd ⟨j, o, hj, hdst⟩ h) ht
    exact ⟨v, by simpa using hv, hr⟩

set_option maxHeartbeats 2000000 in
theorem Jn.any {ρ0 : Rho} {Q : Exit → Act → World → Prop} (hQ : ∀ ρ a w, Ext ρ0 ρ → StRel B w0 ρ (st ops.size) a w → Q .normal a w) : ∀ (fuel : Nat) (L : Array Bool) (ρ : Rho) (a : Act) (w : World), Jn B w0 ops acc st ρ0 L ρ a w →
    cnt (fun j => L.getD j false) ops.size ≤ fuel → wpAny P .any ops Q fuel L a w := by
  have back : ∀ k o, ops[k]? = some o → ∀ e ∈ o.after, Region.binds .any e = true → e.on < k := fun k o hk e he hb => by
    have := (hangs_spec (D := fun _ => True) hh rfl (fun _ _ _ h => by simp at h) (fun _ _ _ _ _ _ _ => trivial) k o (by simpa using hk)).1 e he hb
    simpa using this
  have fin : ∀ (L : Array Bool) (ρ : Rho) (a : Act) (w : World), Jn B w0 ops acc st ρ0 L ρ a w → (∀ j, j < ops.size → L.getD j false = true) → Q .normal a w := fun L ρ a w J hall => hQ ρ a w J.ext (J.last F h0 hall)
  have gtrue : ∀ (L : Array Bool) (j : Nat), L.size = ops.size → j < ops.size → L.getD j true = L.getD j false := fun L j hl hj => by
    have : j < L.size := by omega
    simp [Array.getD, this]
  intro fuel
  induction fuel with
  | zero =>
    intro L ρ a w J hc
    have hall := cnt_zero (L := fun j => L.getD j false) (n := ops.size) (by omega)
    refine ⟨?_, fin L ρ a w J hall⟩
    cases hr : Region.ready .any ops L with
    | nil => rfl
    | cons j js =>
      have hj : j ∈ Region.ready .any ops L := by rw [hr]; simp
      obtain ⟨h1, o, ho, _⟩ := mem_ready.1 hj
      have hlt := (Array.getElem?_eq_some_iff.1 ho).1
      rw [gtrue L j J.size hlt] at h1
      have h2 := hall j hlt
      rw [show L.getD j false = true from h2] at h1
      exact Bool.noConfusion h1
  | succ fuel ih =>
    intro L ρ a w J hc
    refine ⟨fun hr => fin L ρ a w J ?_, fun i hi => ?_⟩
    · have key : ∀ n j, j < n → j < ops.size → L.getD j false = true := by
        intro n
        induction n with
        | zero => intro j hj; omega
        | succ n ihn =>
          intro j hj hjs
          cases hL : L.getD j false with
          | true => rfl
          | false =>
            exfalso
            have hmem : j ∈ Region.ready .any ops L := mem_ready.2 ⟨by rw [gtrue L j J.size hjs]; exact hL, _, Array.getElem?_eq_getElem hjs, fun e he hb => by
              have := back j _ (Array.getElem?_eq_getElem hjs) e he hb
              exact ihn e.on (by omega) (by omega)⟩
            rw [hr] at hmem
            cases hmem
      exact fun j hj => key ops.size j hj hj
    · obtain ⟨h1, o, ho, hpre⟩ := mem_ready.1 hi
      have hlt := (Array.getElem?_eq_some_iff.1 ho).1
      rw [gtrue L i J.size hlt] at h1
      have hiL : i < L.size := by rw [J.size]; exact hlt
      have hcnt : cnt (fun j => (L.setIfInBounds i true).getD j false) ops.size ≤ fuel := by
        have := cnt_set (L := fun j => L.getD j false) (L' := fun j => (L.setIfInBounds i true).getD j false) (i := i) h1 (by show (L.setIfInBounds i true).getD i false = true; rw [getD_set hiL, if_pos rfl]) (fun j hj => by show (L.setIfInBounds i true).getD j false = L.getD j false; rw [getD_set hiL, if_neg hj]) hlt
        omega
      -- what the i-th looks at
      have slots : ∀ t ∈ Oper.looksAt ops o, ∀ sv, (st i).T[t]? = some sv → ∃ v, a.tmps[t]? = some v ∧ VRel ρ sv v := by
        intro t ht sv hs
        classical
        by_cases h : ∃ (j : Nat) (o' : Oper), ops[j]? = some o' ∧ o'.dst = some t
        · obtain ⟨j, o', hj, hdst⟩ := h
          have hsp := (hangs_spec (D := fun j => j = i ∨ L.getD j false = true) hh rfl (fun _ _ _ h => by simp at h) (fun k o2 hk hD e he hb => by
            have hk' : ops[k]? = some o2 := by simpa using hk
            simp only [Nat.zero_add] at hD
            rcases hD with rfl | hD
            · rw [ho] at hk'; cases hk'; exact .inr (hpre e he hb)
            · exact .inr (J.down k o2 hk' hD e he hb)) i o (by simpa using ho)).2 (fun e he hb => .inr (hpre e he hb)) j t (by simp [hj, hdst]) ht
          simp only [Nat.zero_add] at hsp
          have hLj : L.getD j false = true := by
            rcases hsp.2 with e | e
            · omega
            · exact e
          have uniq : ∀ k o2, ops[k]? = some o2 → o2.dst = some t → k = j := fun k o2 hk hk2 => apartD_spec hd k j t (by simp [hk, hk2]) (by simp [hj, hdst])
          have hk1 := F.keep (i := j + 1) (k := i - (j + 1)) (t := t) (by omega) (fun k o2 a1 a2 hk hk2 => by have := uniq k o2 hk hk2; omega)
          have hk2 := F.keep (i := j + 1) (k := ops.size - (j + 1)) (t := t) (by omega) (fun k o2 a1 a2 hk hk2 => by have := uniq k o2 hk hk2; omega)
          rw [show j + 1 + (i - (j + 1)) = i by omega] at hk1
          rw [show j + 1 + (ops.size - (j + 1)) = ops.size by omega] at hk2
          exact J.done j o' t sv hj hdst hLj (by rw [hk2, ← hk1]; exact hs)
        · have hk := F.keep (i := 0) (k := i) (t := t) (by omega) (fun j o' _ _ hj hdst => h ⟨j, o', hj, hdst⟩)
          simp only [Nat.zero_add] at hk
          exact J.todo t sv (fun j o' hj hdst => absurd ⟨j, o', hj, hdst⟩ h) (by rw [← hk]; exact hs)
      obtain ⟨b, hw, hno, hyes⟩ := F.one i o ho
      have hwant : Region.wanted o (yielded ops a.tmps) = b := by
        unfold wantS at hw
        unfold Region.wanted
        split at hw
        · rename_i hg; simp at hw; simp [hg, hw]
        · rename_i j want hg
          simp only [hg]
          split at hw
          · simp at hw
          · rename_i d hdj
            have hdl : d ∈ Oper.looksAt ops o := by unfold Oper.looksAt; rw [hg]; simp [hdj]
            unfold yielded
            simp only [hdj, Option.bind_some]
            split at hw
            · rename_i c hT
              obtain ⟨v, hv, hr⟩ := slots d hdl _ hT
              have e : v = .bool c := hr.1
              simp at hw
              simp [hv, e, ← hw]
            · rename_i hT
              obtain ⟨v, hv, vs, e, hr⟩ := slots d hdl _ hT
              simp at hw
              simp [hv, e, ← hw]
            · simp at hw
      -- stores and other accesses of the same block never change places
      have closed : ∀ {D : Nat → Prop}, (∀ k o, ops[k]? = some o → D k → ∀ e ∈ o.after, Region.binds .any e = true → D e.on) → ∀ {k m j : Nat}, (masks [] ops.toList).getD k 0 = m → D k → m.testBit j = true → D j := by
        intro D hD k m j hk hDk hm
        have hin := masks_in (D := D) (l := ops.toList) (acc := []) (fun _ _ _ h => by simp at h) (fun k o hk hd => hD k o (by simpa using hk) (by simpa using hd))
        cases hq : (masks [] ops.toList)[k]? with
        | none => simp [List.getD, hq] at hk; subst hk; simp at hm
        | some q => simp [List.getD, hq] at hk; subst hk; exact hin k q j hq hDk hm
      have downL : ∀ k o, ops[k]? = some o → L.getD k false = true → ∀ e ∈ o.after, Region.binds .any e = true → L.getD e.on false = true := J.down
      have downI : ∀ k o, ops[k]? = some o → (k = i ∨ L.getD k false = true) → ∀ e ∈ o.after, Region.binds .any e = true → (e.on = i ∨ L.getD e.on false = true) := fun k o2 hk hD e he hb => by
        rcases hD with rfl | hD
        · rw [ho] at hk; cases hk; exact .inr (hpre e he hb)
        · exact .inr (J.down k o2 hk hD e he hb)
      have stLt : ∀ s n, StoreAt ops acc s n → s < ops.size := fun s n ⟨o, h, _⟩ => (Array.getElem?_eq_some_iff.1 h).1
      -- a store behind the i-th, into the block that the i-th touches, is not done yet
      have later : ∀ n s, acc i = some n → StoreAt ops acc s n → i < s → L.getD s false = false := fun n s ha hs hlt' => by
        cases hq : L.getD s false with
        | false => rfl
        | true =>
          have hD := closed (D := fun k => L.getD k false = true) downL rfl hq ((hst s i n hs hlt ha).1 hlt')
          rw [h1] at hD
          exact Bool.noConfusion hD
      have earlier : ∀ n s, acc i = some n → StoreAt ops acc s n → s < i → L.getD s false = true := fun n s ha hs hlt' => by
        rcases closed (D := fun k => k = i ∨ L.getD k false = true) downI rfl (.inl rfl) ((hst s i n hs hlt ha).2 hlt') with h | h
        · omega
        · exact h
      obtain ⟨v, hv1, hv2, hv3, hv4⟩ := J.mem
      have iAcc : ∀ n, acc i = some n → i ≤ v n ∧ NoSt ops acc n (i + 1) (v n) := by
        intro n ha
        have hle : i ≤ v n := by
          rcases Nat.lt_or_ge (v n) i with hlt' | hge
          · obtain ⟨hs, hL⟩ := hv2 n (by omega)
            rw [earlier n _ ha hs hlt'] at hL
            exact Bool.noConfusion hL
          · exact hge
        refine ⟨hle, fun s hs1 hs2 hs => ?_⟩
        have := later n s ha hs (by omega)
        rw [hv3 n s hs2 hs] at this
        exact Bool.noConfusion this
      have notSt : ∀ n, isSt o = false → v n ≠ i := fun n hs h => by
        obtain ⟨⟨o', ho', hs', _⟩, _⟩ := hv2 n (by omega)
        rw [h, ho] at ho'
        cases ho'
        rw [hs] at hs'
        exact Bool.noConfusion hs'
      have noAcc : acc i = none → ∀ n, v n ≠ i := fun hs n h => by
        obtain ⟨⟨o', ho', _, ha⟩, _⟩ := hv2 n (by omega)
        rw [h, hs] at ha
        cases ha
      -- where the i-th is no store that is due, memory is told by the same numbers
      have sameV : (∀ n, v n ≠ i) → ∀ {ρ' : Rho} {w' : World}, (∀ n b, find (st (v n)).H n = some b → BRel B ρ' w' n b) → Mem B ops acc st (L.setIfInBounds i true) ρ' w' := by
        intro hne ρ' w' hm'
        refine ⟨v, hv1, fun n hn => ?_, fun n j hj hs => ?_, hm'⟩
        · obtain ⟨q1, q2⟩ := hv2 n hn
          exact ⟨q1, by rw [getD_set hiL, if_neg (hne n)]; exact q2⟩
        · rw [getD_set hiL]
          split
          · rfl
          · exact hv3 n j hj hs
      have hBw : B ≤ w.heap.size := Nat.le_trans hB J.below.size
      unfold wpOp
      simp only [ho, hwant]
      cases b with
      | false =>
        simp only [Bool.false_eq_true, if_false]
        obtain ⟨hno, hna⟩ := hno rfl
        have hT : (st (i + 1)).T = putT (st i).T o.dst undefS := by rw [hno]
        exact ih _ ρ _ w (J.next F hd ho hpre hT undef_rel (Ext.refl ρ) J.nam (sameV (noAcc hna) hv4) J.below fun m hm _ => hm) hcnt
      | true =>
        simp only [if_true]
        obtain ⟨hacc, v', hT, hH, hstep⟩ := hyes rfl
        have hops : ∀ x ∈ o.op.operands, ∀ sv, lookT (st i).T x = some sv → VRel ρ sv (a.eval x) := by
          intro x hx sv hl
          cases x with
          | tmp t =>
            simp only [lookT] at hl
            obtain ⟨v, hv, hr⟩ := slots t (by unfold Oper.looksAt; exact List.mem_append_left _ (List.mem_filterMap.2 ⟨.tmp t, by simpa using hx, rfl⟩)) sv hl
            have e : a.eval (.tmp t) = v := getD_of hv
            rw [e]
            exact hr
          | const c => exact ofConst_rel hl
          | global g => simp [lookT] at hl
          | func f => simp [lookT] at hl; subst hl; exact ⟨[], trivial, rfl⟩
        have hblk : ∀ n b, accOf (lookT (st i).T) (st i).nx o = some n → find (st i).H n = some b → BRel B ρ w n b := by
          intro n b ha hf
          rw [← hacc] at ha
          obtain ⟨hle, hns⟩ := iAcc n ha
          refine hv4 n b ?_
          refine F.heap h0 hle (hv1 n) (fun s hs1 hs2 hs => ?_) hf
          by_cases e : s = i
          · subst e
            have := hv3 n s hs2 hs
            rw [h1] at this
            exact Bool.noConfusion this
          · exact hns s (by omega) hs2 hs
        refine .inl (hstep hops J.nam hblk J.below (fun hs x w' hv hb' hH' hnx => ?_) (fun hs x cs t vs ha hH' hnx hcs hv => ?_) fun hs x w' n ha hv hbn hoth hsz hb' hnx => ?_)
        · exact ih _ ρ _ w' (J.next F hd ho hpre hT hv (Ext.refl ρ) (J.nam.below hb'.size) (sameV (fun n => notSt n hs) fun n b hf => (hv4 n b hf).below J.nam hb') (J.below.trans (hb'.mono hBw)) fun m hm _ => hm) hcnt
        · have hn : ρ (st i).nx = none := J.fr i hlt h1 (by omega)
          rw [← hacc] at ha
          obtain ⟨hle, hns⟩ := iAcc _ ha
          have hne := notSt (st i).nx hs
          have hfind : find (st (i + 1)).H (st i).nx = some ⟨cs, t, true⟩ := by
            rw [hH']
            simp only [find]
            rw [if_pos (Nat.beq_refl _)]
          have hfind' := F.heap h0 (n := (st i).nx) (i := i + 1) (k := v (st i).nx) (by omega) (hv1 _) hns hfind
          refine ih _ (newRho ρ (st i).nx w.heap.size) _ _ (J.next F hd ho hpre hT (hv hn) (newRho_ext hn) (J.nam.alloc _) (sameV (fun n => notSt n hs) fun n b hf => ?_) (J.below.alloc hBw _) fun m hm hne => ?_) hcnt
          · by_cases e : n = (st i).nx
            · subst e
              rw [hfind'] at hf
              cases hf
              exact BRel.alloc_new hn hBw hcs
            · exact (hv4 n b hf).alloc_old J.nam hn e _
          · simp only [newRho]
            rw [if_neg (hne (by omega))]
            exact hm
        · rw [← hacc] at ha
          obtain ⟨hle, hns⟩ := iAcc n ha
          have hvi : v n = i := by
            rcases Nat.lt_or_ge i (v n) with hlt' | hge
            · have := hv3 n i hlt' ⟨o, ho, hs, ha⟩
              rw [h1] at this
              exact Bool.noConfusion this
            · omega
          -- the next store into the block
          have least : ∀ k, ∃ e', i + 1 ≤ e' ∧ e' ≤ i + 1 + k ∧ NoSt ops acc n (i + 1) e' ∧ (e' < i + 1 + k → StoreAt ops acc e' n) := by
            intro k
            induction k with
            | zero => exact ⟨i + 1, by omega, by omega, fun j h1 h2 => by omega, fun h => by omega⟩
            | succ k ihk =>
              obtain ⟨e', a1, a2, a3, a4⟩ := ihk
              rcases Nat.lt_or_ge e' (i + 1 + k) with hlt' | hge
              · exact ⟨e', a1, by omega, a3, fun _ => a4 hlt'⟩
              · classical
                by_cases hse : StoreAt ops acc e' n
                · exact ⟨e', a1, by omega, a3, fun _ => hse⟩
                · exact ⟨e' + 1, by omega, by omega, fun j h1 h2 hj => by
                    rcases Nat.lt_or_ge j e' with h | h
                    · exact a3 j h1 h hj
                    · rw [show j = e' by omega] at hj; exact hse hj, fun h => by omega⟩
          obtain ⟨e', a1, a2, a3, a4⟩ := least (ops.size - (i + 1))
          rw [show i + 1 + (ops.size - (i + 1)) = ops.size by omega] at a2 a4
          have hvm : ∀ m, m ≠ n → v m ≠ i := fun m hm hvi' => by
            obtain ⟨⟨_, _, _, ha'⟩, _⟩ := hv2 m (by omega)
            rw [hvi', ha] at ha'
            cases ha'
            exact hm rfl
          refine ih _ ρ _ w' (J.next F hd ho hpre hT hv (Ext.refl ρ) (J.nam.below (by omega)) ?_ (J.below.trans hb') fun m hm _ => hm) hcnt
          obtain ⟨v', hvn, hvo⟩ : ∃ v' : Nat → Nat, v' n = e' ∧ ∀ m, m ≠ n → v' m = v m := ⟨fun m => if m = n then e' else v m, by simp, fun m hm => by simp [hm]⟩
          refine ⟨v', fun m => ?_, fun m hm => ?_, fun m j hj hsj => ?_, fun m b hf => ?_⟩
          · by_cases e : m = n
            · rw [e, hvn]; exact a2
            · rw [hvo m e]; exact hv1 m
          · by_cases e : m = n
            · subst e
              rw [hvn] at hm ⊢
              have hse := a4 hm
              refine ⟨hse, ?_⟩
              rw [getD_set hiL, if_neg (by omega)]
              exact later m e' ha hse (by omega)
            · rw [hvo m e] at hm ⊢
              obtain ⟨q1, q2⟩ := hv2 m hm
              exact ⟨q1, by rw [getD_set hiL, if_neg (hvm m e)]; exact q2⟩
          · rw [getD_set hiL]
            split
            · rfl
            · rename_i hji
              by_cases e : m = n
              · subst e
                rw [hvn] at hj
                rcases Nat.lt_or_ge j i with h | h
                · exact hv3 m j (by omega) hsj
                · exact absurd hsj (a3 j (by omega) hj)
              · rw [hvo m e] at hj
                exact hv3 m j hj hsj
          · by_cases e : m = n
            · subst e
              rw [hvn] at hf
              intro y hy
              have hlt2 : m < (st (i + 1)).nx := by
                rw [hnx]
                rcases hH with ⟨hs2, _⟩ | ⟨hs2, _⟩ | ⟨_, _, m', cs', ha', ⟨b0, hb0⟩, _⟩
                · rw [hs] at hs2; exact Bool.noConfusion hs2
                · rw [hs] at hs2; exact Bool.noConfusion hs2
                · rw [← hacc, ha] at ha'
                  cases ha'
                  exact F.names h0 (i := i) (by omega) m b0 hb0
              exact hbn b (F.back (n := m) a1 a2 a3 hlt2 hf) y hy
            · rw [hvo m e] at hf
              intro y hy
              obtain ⟨q1, vs, q2, q3⟩ := hv4 m b hf y hy
              exact ⟨q1, vs, by rw [hoth m y e hy]; exact q2, q3⟩
end

theorem draw_sound {P : Program} {I : World → Prop} {rec : Rec} {B : Nat} {w0 : World} (hB : B ≤ w0.heap.size) (hI : ∀ w, Below B w0 w → I w) {S : List Sum} (hS : ∀ c ∈ S, SumOK P I c) {ops : Array Oper} {id : Nat} (hok : drawOK P S ops = true) {s s' : St} {as : List (Option Nat)}
    (h : (evD rec P S ops 0 ops.toList s []).den = some (s', as)) (hacc : accAll (masks [] ops.toList) as 0 ops.toList as = true)
    {ρ : Rho} {a : Act} {w : World} (hs : StRel B w0 ρ s a w) {Q : Exit → Act → World → Prop} (hQ : ∀ ρ' a' w', Ext ρ ρ' → StRel B w0 ρ' s' a' w' → Q .normal a' w') : (Code.region id ops true).wp P Q a w := by
  simp only [drawOK, Bool.and_eq_true] at hok
  obtain ⟨⟨⟨hmix, hall⟩, hd⟩, hh⟩ := hok
  obtain ⟨st, acc, bs, e0, en, eas, elen, ebs, ht⟩ := trace_of (P := P) (rec := rec) (S := S) ops.toList 0 h
  simp only [Nat.zero_add, Array.length_toList] at en elen ebs
  rw [List.nil_append] at eas
  subst eas
  have F : Facts B w0 P ops st acc := by
    refine ⟨fun i o ho => ?_⟩
    have hoL : ops.toList[i]? = some o := by simpa using ho
    obtain ⟨b, h1, h2, h3⟩ := ht.step i o hoL
    simp only [Nat.zero_add] at h1 h2 h3
    refine ⟨b, h1, h2, fun hb => ?_⟩
    have hal := List.all_eq_true.1 hall o (List.mem_of_getElem? hoL)
    obtain ⟨q1, q2⟩ := h3 hb
    exact ⟨q2, oneStep hI hS hal q1⟩
  have hst : ∀ s j n, StoreAt ops acc s n → j < ops.size → acc j = some n → (j < s → ((masks [] ops.toList).getD s 0).testBit j = true) ∧ (s < j → ((masks [] ops.toList).getD j 0).testBit s = true) := by
    intro s j n ⟨o, ho, hso, hn⟩ hj hjn
    have hs' : s < ops.size := (Array.getElem?_eq_some_iff.1 ho).1
    have hrow := accAll_spec hacc s o n (by simpa using ho) (by rw [ebs s hs', hn]) hso
    rw [Nat.zero_add] at hrow
    have := accRow_spec hrow j (by rw [ebs j hj, hjn])
    simpa using this
  subst e0 en
  refine wp_region_any hmix ?_
  refine Jn.any hB F hd hh hst hs.names (ρ0 := ρ) hQ ops.size _ ρ a _ ⟨Ext.refl ρ, by simp, fun k o hk hL => ?_, ?_, fun j o t sv hj hdst hL => ?_, fun t sv hn ht => ?_, ⟨hs.mem.lt, hs.mem.inj⟩, ?_, ⟨hs.below.os, hs.below.tape, hs.below.output, hs.below.size, hs.below.block⟩, hs.defers, fun j hj hL hlt => ?_, fun m hm => ?_⟩ (cnt_le _ _)
  · simp [Array.getD] at hL
  · have := hs.tmps.length; simpa using this.symm
  · simp [Array.getD] at hL
  · obtain ⟨v, hv, hr⟩ := hs.tmps.get ht
    exact ⟨v, by simpa using hv, hr⟩
  · have least : ∀ m n, ∃ e', e' ≤ n ∧ NoSt ops acc m 0 e' ∧ (e' < n → StoreAt ops acc e' m) := by
      intro m n
      induction n with
      | zero => exact ⟨0, Nat.le_refl _, fun j h1 h2 => by omega, fun h => by omega⟩
      | succ n ihn =>
        obtain ⟨e', a1, a3, a4⟩ := ihn
        rcases Nat.lt_or_ge e' n with hlt' | hge
        · exact ⟨e', by omega, a3, fun _ => a4 hlt'⟩
        · classical
          by_cases hse : StoreAt ops acc e' m
          · exact ⟨e', by omega, a3, fun _ => hse⟩
          · exact ⟨e' + 1, by omega, fun j h1 h2 hj => by
              rcases Nat.lt_or_ge j e' with h | h
              · exact a3 j h1 h hj
              · rw [show j = e' by omega] at hj; exact hse hj, fun h => by omega⟩
    refine ⟨fun m => (least m ops.size).choose, fun m => (least m ops.size).choose_spec.1, fun m hm => ⟨(least m ops.size).choose_spec.2.2 hm, by simp [Array.getD]⟩, fun m j hj hsj => absurd hsj ((least m ops.size).choose_spec.2.1 j (by omega) hj), fun m b hb x hx => ?_⟩
    have hlt : m < (st 0).nx := by
      rcases Nat.lt_or_ge m (st 0).nx with h | h
      · exact h
      · rw [hs.fresh m h] at hx; cases hx
    exact hs.mem.blk m b x (F.back (n := m) (Nat.zero_le _) (least m ops.size).choose_spec.1 (least m ops.size).choose_spec.2.1 hlt hb) hx
  · refine hs.fresh _ ?_
    have := F.nx_mono (i := 0) (k := j) (by omega) (by omega)
    omega
  · refine hs.fresh _ ?_
    have := F.nx_mono (i := 0) (k := ops.size) (by omega) (Nat.le_refl _)
    omega
end Go.Proofs.YtiooegkbkahppaaDoor
