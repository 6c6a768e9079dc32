/- The symbolic evaluator is sound: a function whose evaluation ends well meets the contract that it spells. No condition. -/
import Derived.Test.YtiooegkbkahppaaDoorEv10
namespace Go.Proofs.YtiooegkbkahppaaDoor
open Go.RowKit

/-- A loop that ends within m rounds. -/
def LoopOK (P : Program) (I : World → Prop) (m : Nat) (rec : Rec) : Prop :=
  ∀ c1 s x s', (rec (.loop c1) s).den = some (x, s') → ∀ (B : Nat) (w0 : World) (ρ : Rho) (a : Act) (w : World) (Q : Exit → Act → World → Prop), B ≤ w0.heap.size → (∀ w, Below B w0 w → I w) → StRel B w0 ρ s a w →
    (∀ ρ' a' w', Ext ρ ρ' → StRel B w0 ρ' s' a' w' → Q x.to a' w') → Code.rounds P c1 Q m a w

section
variable {P : Program} {I : World → Prop} {S : List Sum} (hS : ∀ c ∈ S, SumOK P I c)

theorem loop_sound {rec : Rec} {m : Nat} (hrec : RecOK P I rec) (hl : LoopOK P I m rec) : LoopOK P I (m + 1) (stepC P S rec) := by
  intro c1 s x s' h B w0 ρ a w Q hB hI hs hQ
  simp only [stepC] at h
  obtain ⟨⟨x1, s1⟩, h1, h2⟩ := den_bind_some h
  rw [rounds_succ]
  refine hrec c1 s x1 s1 h1 B w0 ρ a w _ hB hI hs fun ρ1 a1 w1 hx hs1 => ?_
  cases x1 with
  | normal => exact hl c1 s1 x s' h2 B w0 ρ1 a1 w1 Q hB hI hs1 fun ρ2 a2 w2 hx2 hs2 => hQ ρ2 a2 w2 (hx.trans hx2) hs2
  | exit id =>
    simp [Tree.den] at h2
    obtain ⟨rfl, rfl⟩ := h2
    exact hQ ρ1 a1 w1 hx hs1
  | ret =>
    simp [Tree.den] at h2
    obtain ⟨rfl, rfl⟩ := h2
    exact hQ ρ1 a1 w1 hx hs1

include hS in
theorem stepC_sound {rec : Rec} {m : Nat} (hrec : RecOK P I rec) (hl : LoopOK P I m rec) : RecOK P I (stepC P S rec) := by
  intro c s x s' h B w0 ρ a w Q hB hI hs hQ
  unfold stepC at h
  split at h
  · simp [Tree.den] at h
    obtain ⟨rfl, rfl⟩ := h
    exact wp_skip (hQ ρ a w (Ext.refl ρ) hs)
  · simp [Tree.den] at h
    obtain ⟨rfl, rfl⟩ := h
    exact wp_label (hQ ρ a w (Ext.refl ρ) hs)
  · rename_i id ops draw
    split at h
    · rename_i hdr
      subst hdr
      split at h
      · rename_i hok
        obtain ⟨⟨s1, as⟩, h1, h2⟩ := den_bind_some h
        simp only at h2
        split at h2
        · rename_i hacc
          simp [Tree.den] at h2
          obtain ⟨rfl, rfl⟩ := h2
          exact draw_sound hB hI hS hok h1 hacc hs hQ
        · simp [Tree.den] at h2
      · simp [Tree.den] at h
    · rename_i hdr
      obtain ⟨s1, h1, h2⟩ := den_bind_some h
      simp [Tree.den] at h2
      obtain ⟨rfl, rfl⟩ := h2
      have : draw = false := by simpa using hdr
      subst this
      exact wp_region_list (evOps_sound hrec hB hI hS ops.toList 0 h1 hs hQ)
  · rename_i c1 c2
    obtain ⟨⟨x1, s1⟩, h1, h2⟩ := den_bind_some h
    refine wp_seq (hrec c1 s x1 s1 h1 B w0 ρ a w _ hB hI hs fun ρ1 a1 w1 hx hs1 => ?_)
    cases x1 with
    | normal => exact hrec c2 s1 x s' h2 B w0 ρ1 a1 w1 Q hB hI hs1 fun ρ2 a2 w2 hx2 hs2 => hQ ρ2 a2 w2 (hx.trans hx2) hs2
    | exit id =>
      simp [Tree.den] at h2
      obtain ⟨rfl, rfl⟩ := h2
      exact hQ ρ1 a1 w1 hx hs1
    | ret =>
      simp [Tree.den] at h2
      obtain ⟨rfl, rfl⟩ := h2
      exact hQ ρ1 a1 w1 hx hs1
  · rename_i c c1 c2
    have hg := lookT_rel hs.tmps c
    split at h
    · rename_i hc
      have e : a.eval c = .bool true := (hg _ hc).1
      exact wp_cond_true e (hrec c1 s x s' h B w0 ρ a w Q hB hI hs hQ)
    · rename_i hc
      have e : a.eval c = .bool false := (hg _ hc).1
      exact wp_cond_false e (hrec c2 s x s' h B w0 ρ a w Q hB hI hs hQ)
    · rename_i y _ _ hc
      split at h
      · rename_i hk
        obtain ⟨b, e, db⟩ := erel_bool (ρ := ρ) (hg _ hc) hk
        simp only [Tree.den, db, tru] at h
        have hst : ∀ b', a.eval c = .bool b' → StRel B w0 ρ { s with T := refT s.T c b' } a w := fun b' e' => by
          refine ⟨?_, hs.mem, hs.below, hs.fresh, hs.names, hs.defers⟩
          cases c with
          | tmp t =>
            obtain ⟨v, hv, hr⟩ := hs.tmps.get (show s.T[t]? = some _ from hc)
            have ev : v = .bool b' := by
              have : a.eval (.tmp t) = v := getD_of (by simpa using hv)
              rw [← this]
              exact e'
            have hset := hs.tmps.set (c := .p (.c (.e (.lit (.bool b'))))) (v := v) t (by rw [ev]; exact ⟨rfl, .b, rfl, _, rfl⟩)
            have hid : a.tmps.toList.set t v = a.tmps.toList := by
              apply List.ext_getElem?
              intro j
              by_cases e2 : t = j
              · subst e2
                have hl : t < a.tmps.toList.length := by
                  rcases Nat.lt_or_ge t a.tmps.toList.length with h | h
                  · exact h
                  · rw [List.getElem?_eq_none h] at hv; simp at hv
                rw [List.getElem?_set_self hl, hv]
              · rw [List.getElem?_set_ne e2]
            rw [hid] at hset
            exact hset
          | const v => exact hs.tmps
          | global g => exact hs.tmps
          | func f => exact hs.tmps
        cases b with
        | true => exact wp_cond_true e (hrec c1 _ x s' h B w0 ρ a w Q hB hI (hst true e) hQ)
        | false => exact wp_cond_false e (hrec c2 _ x s' h B w0 ρ a w Q hB hI (hst false e) hQ)
      · simp [Tree.den] at h
    · simp [Tree.den] at h
  · rename_i id c1
    obtain ⟨⟨x1, s1⟩, h1, h2⟩ := den_bind_some h
    refine wp_block (hrec c1 s x1 s1 h1 B w0 ρ a w _ hB hI hs fun ρ1 a1 w1 hx hs1 => ?_)
    cases x1 with
    | normal =>
      simp [Tree.den] at h2
      obtain ⟨rfl, rfl⟩ := h2
      exact hQ ρ1 a1 w1 hx hs1
    | exit id' =>
      simp only at h2
      split at h2
      · rename_i hb
        have hb := beq_len hb
        subst hb
        simp [Tree.den] at h2
        obtain ⟨rfl, rfl⟩ := h2
        show (if id' = id' then Q .normal a1 w1 else Q (.exit id') a1 w1)
        rw [if_pos rfl]
        exact hQ ρ1 a1 w1 hx hs1
      · rename_i hb
        simp [Tree.den] at h2
        obtain ⟨rfl, rfl⟩ := h2
        show (if id' = id then Q .normal a1 w1 else Q (.exit id') a1 w1)
        rw [if_neg (fun e => by subst e; exact hb (Nat.beq_refl _))]
        exact hQ ρ1 a1 w1 hx hs1
    | ret =>
      simp [Tree.den] at h2
      obtain ⟨rfl, rfl⟩ := h2
      exact hQ ρ1 a1 w1 hx hs1
  · rename_i c1
    exact wp_loop_rounds (m + 1) (loop_sound (S := S) hrec hl c1 s x s' h B w0 ρ a w Q hB hI hs hQ)
  · rename_i id
    simp [Tree.den] at h
    obtain ⟨rfl, rfl⟩ := h
    exact wp_exit (hQ ρ a w (Ext.refl ρ) hs)
  · rename_i c1
    refine wp_scope_straight (hrec c1 s x s' h B w0 ρ a w _ hB hI hs fun ρ1 a1 w1 hx hs1 => ?_)
    have := hQ ρ1 a1 w1 hx hs1
    cases x <;> exact this
  · simp [Tree.den] at h
    obtain ⟨rfl, rfl⟩ := h
    exact wp_ret (hQ ρ a w (Ext.refl ρ) hs)
  · simp [Tree.den] at h

include hS in
theorem ev_sound (n : Nat) : RecOK P I (ev P S n) ∧ LoopOK P I n (ev P S n) := by
  induction n with
  | zero => exact ⟨fun c s x s' h => by simp [ev, Tree.den] at h, fun c s x s' h => by simp [ev, Tree.den] at h⟩
  | succ n ih => exact ⟨stepC_sound hS ih.1 ih.2, loop_sound ih.1 ih.2⟩
end

/-! The contract that an evaluation spells. -/
theorem good_den {r : RS} : ∀ {t : Tree SV}, t.good r = true → t.ok = true → ∃ v, t.den = some v ∧ fitR r v = true ∧ t.outL = v.leaves
  | .ret v, h, _ => ⟨v, rfl, h, rfl⟩
  | .ite c t f, h, k => by
    simp only [Tree.good, Bool.and_eq_true] at h
    simp only [Tree.ok] at k
    simp only [Tree.den, Tree.outL]
    cases hc : tru c.den with
    | true => rw [hc] at k; exact good_den h.1 k
    | false => rw [hc] at k; exact good_den h.2 k
  | .fail, _, k => by simp [Tree.ok] at k

section
variable {ρ : Rho}
theorem fitC_spec : ∀ {κs : List SK} {cs : List SC} {vs : List Value}, fitC κs cs = true → CsRel ρ cs vs → vs = leafs cs ∧ KindsL κs vs
  | [], [], vs, _, hr => by
    cases vs with
    | nil => exact ⟨rfl, rfl⟩
    | cons v vs => exact hr.elim
  | [], _ :: _, _, h, _ => by simp [fitC] at h
  | κ :: κs, [], _, h, _ => by simp [fitC] at h
  | κ :: κs, c :: cs, vs, h, hr => by
    cases c with
    | e x =>
      simp only [fitC, Bool.and_eq_true] at h
      cases vs with
      | nil => exact hr.elim
      | cons v vs =>
        obtain ⟨⟨hd, κ2, hk2, hi⟩, hr⟩ := hr
        obtain ⟨e2, k2⟩ := fitC_spec h.2 hr
        have h1 := h.1
        rw [hk2] at h1
        have e := eqSK_eq h1
        subst e
        exact ⟨by simp [leafs, SC.leaf, hd, ← e2], v, vs, rfl, hi, k2⟩
    | p b off => simp [fitC] at h
    | fn f caps => simp [fitC] at h
    | sl b off len cap => simp [fitC] at h
theorem fitP_spec {p : PS} {x : SP} {v : Value} (h : fitP p x = true) (hr : PRel ρ x v) : KindsL p.kinds x.leaves ∧ ∀ rest, p.pack (x.leaves ++ rest) = v := by
  cases p with
  | c κ =>
    cases x with
    | c x =>
      obtain ⟨e, k⟩ := fitC_spec (ρ := ρ) (vs := [v]) h ⟨hr, trivial⟩
      simp [leafs] at e
      refine ⟨?_, fun rest => e.symm⟩
      rw [e] at k
      exact k
    | agg cs => simp [fitP] at h
  | agg κs =>
    cases x with
    | c x => simp [fitP] at h
    | agg cs =>
      obtain ⟨vs, rfl, k⟩ := hr
      obtain ⟨e, k⟩ := fitC_spec (ρ := ρ) h k
      subst e
      refine ⟨k, fun rest => ?_⟩
      simp only [PS.pack, SP.leaves]
      rw [List.take_left' k.length]
theorem fitL_spec : ∀ {ps : List PS} {xs : List SP} {vs : List Value}, fitL ps xs = true → PsRel ρ xs vs → KindsL (kindsL ps) (leavesL xs) ∧ packL ps (leavesL xs) = vs
  | [], [], vs, _, hr => by
    cases vs with
    | nil => exact ⟨rfl, rfl⟩
    | cons v vs => exact hr.elim
  | [], _ :: _, _, h, _ => by simp [fitL] at h
  | _ :: _, [], _, h, _ => by simp [fitL] at h
  | p :: ps, x :: xs, vs, h, hr => by
    simp only [fitL, Bool.and_eq_true] at h
    cases vs with
    | nil => exact hr.elim
    | cons v vs =>
      obtain ⟨k1, p1⟩ := fitP_spec (ρ := ρ) h.1 hr.1
      obtain ⟨k2, p2⟩ := fitL_spec h.2 hr.2
      refine ⟨k1.append k2, ?_⟩
      simp only [packL, leavesL]
      rw [p1, List.drop_left' k1.length, p2]
theorem fitR_spec {r : RS} {x : SV} {v : Value} (h : fitR r x = true) (hr : VRel ρ x v) : KindsL r.kinds x.leaves ∧ r.pack x.leaves = v := by
  cases r with
  | one p =>
    cases x with
    | p x =>
      obtain ⟨k, hp⟩ := fitP_spec (ρ := ρ) h hr
      exact ⟨k, by have := hp []; rw [List.append_nil] at this; exact this⟩
    | tup xs => simp [fitR] at h
  | tup ps =>
    cases x with
    | p x => simp [fitR] at h
    | tup xs =>
      obtain ⟨vs, rfl, k⟩ := hr
      obtain ⟨k, hp⟩ := fitL_spec (ρ := ρ) h k
      exact ⟨k, by simp [RS.pack, SV.leaves, hp]⟩

theorem inCs_rel : ∀ {κs : List SK} {vs : List Value}, KindsL κs vs → ∀ rest, CsRel ρ (inCs κs (vs ++ rest)) vs
  | [], vs, h, rest => by rw [show vs = [] from h]; trivial
  | κ :: κs, vs, h, rest => by
    obtain ⟨v, us, rfl, h1, h2⟩ := h
    exact ⟨⟨h1.norm.symm, κ, rfl, h1⟩, inCs_rel h2 rest⟩
theorem inL_rel : ∀ {ps : List PS} {vs : List Value}, KindsL (kindsL ps) vs → VsRel ρ (inL ps vs) (packL ps vs)
  | [], _, _ => trivial
  | p :: ps, vs, h => by
    obtain ⟨k1, k2⟩ := KindsL.split h
    refine ⟨?_, inL_rel k2⟩
    have e : vs = vs.take p.kinds.length ++ vs.drop p.kinds.length := (List.take_append_drop _ _).symm
    cases p with
    | c κ =>
      obtain ⟨v, us, he, h1, h2⟩ := k1
      have : vs.headD undef = v := by rw [e, he]; rfl
      exact ⟨by simp only [SE.den, PS.pack, this, h1.norm], κ, rfl, by simp only [PS.pack, this]; exact h1⟩
    | agg κs =>
      have := inCs_rel (ρ := ρ) k1 (vs.drop κs.length)
      have e' : vs.take κs.length ++ vs.drop κs.length = vs := List.take_append_drop _ _
      simp only [PS.kinds] at this
      rw [e'] at this
      exact ⟨vs.take κs.length, rfl, this⟩
end

/-- THE CONTRACT: an evaluation that ends well tells what the function does. -/
theorem sumOK_part {P : Program} {I : World → Prop} (hst : Stays I) {S : List Sum} (hS : ∀ c ∈ S, SumOK P I c) (n : Nat) (f : FuncId) (A : List PS) (R : RS) (hg : ∀ vs, (evF P S n f (inL A vs)).good R = true)
    (hok : ∀ vs, KindsL (kindsL A) vs → (evF P S n f (inL A vs)).ok = true) : SumOK P I ⟨f, fun vs => (evF P S n f (inL A vs)).outL, A, R⟩ := by
  intro vs hk w hIw
  obtain ⟨v, hd, hf, hv⟩ := good_den (hg vs) (hok vs hk)
  unfold evF at hd
  obtain ⟨⟨sv, H', nx'⟩, h1, h2⟩ := den_bind_some hd
  simp [Tree.den] at h2
  subst h2
  refine (callF_sound (ev_sound hS n).1 (B := w.heap.size) (w0 := w) (Nat.le_refl _) (fun w' hb => hst w w' hIw hb) h1 (ρ := fun _ => none) (vs := packL A vs) (w := w) (inL_rel hk) ⟨fun _ _ h => by simp at h, fun _ _ _ h => by simp at h, fun _ _ _ h => by simp [find] at h⟩ (Below.refl _ _) (fun _ _ => rfl) (fun _ _ h => by simp [find] at h)).mono ?_
  rintro x w' ⟨ρ', _, hx, _, hb, _⟩
  obtain ⟨k, hp⟩ := fitR_spec hf hx
  exact ⟨by simp only [hv]; exact hp.symm, by simp only [hv]; exact k, hb⟩
theorem sumOK_ev {P : Program} {I : World → Prop} (hst : Stays I) {S : List Sum} (hS : ∀ c ∈ S, SumOK P I c) (n : Nat) (f : FuncId) (A : List PS) (R : RS) (hg : ∀ vs, ((evF P S n f (inL A vs)).good R && (evF P S n f (inL A vs)).sure) = true) :
    SumOK P I ⟨f, fun vs => (evF P S n f (inL A vs)).outL, A, R⟩ :=
  sumOK_part hst hS n f A R (fun vs => (Bool.and_eq_true_iff.1 (hg vs)).1) (fun vs _ => ok_of_sure (Bool.and_eq_true_iff.1 (hg vs)).2)

def AllOK (P : Program) (I : World → Prop) (S : List Sum) : Prop := ∀ c ∈ S, SumOK P I c
theorem allOK_nil {P : Program} {I : World → Prop} : AllOK P I [] := fun _ h => by cases h
theorem allOK_cons {P : Program} {I : World → Prop} {s : Sum} {S : List Sum} (h : SumOK P I s) (k : AllOK P I S) : AllOK P I (s :: S) := fun c hc => by
  rcases List.mem_cons.1 hc with rfl | hc
  · exact h
  · exact k c hc
/-- No invariant. -/
def Any : World → Prop := fun _ => True
theorem any_stays : Stays Any := fun _ _ _ _ => trivial
end Go.Proofs.YtiooegkbkahppaaDoor
