/- Slices among a statement's arguments: what is read of them, and that they read well. -/
import Derived.Test.YtjgmipklbpghfaaDoorNames
import Derived.Test.YtjgmipklbpghfaaDoorPlain
import Derived.Deep.Slices
namespace Go.Proofs.YtjgmipklbpghfaaDoor
set_option maxRecDepth 100000
open Go.RowKit

abbrev Cells := Addr → Option Value
def F_len (v : Value) : Int := num ((lnF [v]).getD 0 undef)
def F_isSl (v : Value) : Bool := tru ((slF [v]).getD 0 undef)
def F_ixOk (v : Value) (j : Int) : Bool := tru ((ixF [v, .int .i64 j]).getD 0 undef)
def F_at (s : Nat) (v : Value) (j : Int) : Value := (ptF s [v, .int .i64 j]).getD 0 undef
def F_rdk (mem : Cells) (κs : List SK) (v : Value) : Bool := tru ((rdK mem κs [v]).getD 0 undef)
def F_rd_i64x1 (mem : Cells) (v : Value) : Int := num ((rdF mem 1 [v]).getD 0 undef)
def F_rd_i64x5 (mem : Cells) (v : Value) : Int × Int × Int × Int × Int := (num ((rdF mem 5 [v]).getD 0 undef), num ((rdF mem 5 [v]).getD 1 undef), num ((rdF mem 5 [v]).getD 2 undef), num ((rdF mem 5 [v]).getD 3 undef), num ((rdF mem 5 [v]).getD 4 undef))
def K1 : List SK := [.i .i64]
def K5 : List SK := [.i .i64, .i .i64, .i .i64, .i .i64, .i .i64]
/-- A slice whose elements read well. -/
def sliceB (mem : Cells) (κs : List SK) : Value → Bool
  | .slice none n _ => Nat.beq n 0
  | .slice (some a) n _ => decide ((n : Int) ≤ 9223372036854775807) && (List.range n).all fun j => rdAll mem (a.add (j * κs.length)) 0 κs
  | _ => false
section
variable {mem : Cells} {κs : List SK} {v : Value} (h : sliceB mem κs v = true)
include h
theorem slice_isSl : F_isSl v = true := by
  unfold sliceB at h
  split at h
  · rename_i n c
    have := beq_len h
    subst this
    rfl
  · rename_i a n c
    simp only [Bool.and_eq_true] at h
    exact h.1
  · cases h
theorem slice_len : 0 ≤ F_len v := by
  unfold sliceB at h
  split at h
  · exact Int.natCast_nonneg _
  · exact Int.natCast_nonneg _
  · cases h
theorem slice_ix {j : Int} (h0 : 0 ≤ j) (h1 : j < F_len v) : F_ixOk v j = true ∧ F_rdk mem κs (F_at κs.length v j) = true := by
  unfold sliceB at h
  split at h
  · rename_i n c
    have := beq_len h
    subst this
    have : j < 0 := h1
    omega
  · rename_i a n c
    simp only [Bool.and_eq_true] at h
    have h1' : j < (n : Int) := h1
    have hj := List.all_eq_true.1 h.2 j.toNat (by simp; omega)
    refine ⟨?_, hj⟩
    show (decide (0 ≤ j) && decide (j < (n : Int))) = true
    rw [decide_eq_true h0, decide_eq_true h1']
    rfl
  · cases h
end

/-! Contracts over old memory. -/
def InvM (mem : Cells) (w : World) : Prop := InvN w ∧ ∀ a v, mem a = some v → w.cell? a = some v
theorem invM_stays (mem : Cells) : Stays (InvM mem) := fun w w' h hb => ⟨invN_stays _ _ h.1 hb, fun a v ha => by
  have hc := h.2 a v ha
  rw [hb.cell (World.block_lt_of_cell? _ _ hc)]
  exact hc⟩
theorem memOK_nil (mem : Cells) : MemOK Tryd.prog (InvM mem) ⟨mem, []⟩ := ⟨fun _ hw => hw.2, fun _ h => by cases h⟩
theorem memOK_cons {mem : Cells} {c : CSum} {cs : List CSum} (hc : CSumOK Tryd.prog (InvM mem) c) (h : MemOK Tryd.prog (InvM mem) ⟨mem, cs⟩) : MemOK Tryd.prog (InvM mem) ⟨mem, c :: cs⟩ := ⟨h.cell, fun x hx => by
  rcases List.mem_cons.1 hx with rfl | hx
  · exact hc
  · exact h.sums x hx⟩
theorem SumOK.memory {s : Sum} {mem : Cells} (h : SumOK Tryd.prog InvN s) : SumOK Tryd.prog (InvM mem) s := fun vs hk w hw => h vs hk w hw.1
theorem allOK_memory {S : List Sum} {mem : Cells} (h : AllOK Tryd.prog InvN S) : AllOK Tryd.prog (InvM mem) S := fun c hc => (h c hc).memory

def pre_gen_At (mem : Cells) : List Value → Bool
  | v :: _ => sliceB mem K1 v
  | _ => false
def F_pre_gen_At (mem : Cells) (v : Value) (j : Int) : Bool := tru ((preF (pre_gen_At mem) [v, .int .i64 j]).getD 0 undef)
theorem pre_at {mem : Cells} {v : Value} (h : sliceB mem K1 v = true) (j : Int) : F_pre_gen_At mem v j = true := h
def pre_law12_run (mem : Cells) : List Value → Bool
  | _ :: _ :: l :: o :: _ => sliceB mem K5 l && sliceB mem K1 o
  | _ => false
def F_pre_law12_run (mem : Cells) (_ : Bool) (_ : Int) (l o : Value) (_ _ _ _ _ _ _ _ _ _ _ : Int) : Bool := sliceB mem K5 l && sliceB mem K1 o
def pre_law12_GroupStaysValid (mem : Cells) : List Value → Bool
  | _ :: _ :: _ :: l :: o :: _ => sliceB mem K5 l && sliceB mem K1 o
  | _ => false
def pre_law12_GroupIsolatedIsPlain (mem : Cells) : List Value → Bool
  | l :: o :: k :: _ => sliceB mem K5 l && sliceB mem K1 o && sliceB mem K1 k
  | _ => false
theorem cond_t {c x : Bool} (h : x = true) : (bif c then true else x) = true := by cases c <;> simp [h]

theorem csum_calls {P : Program} {I : World → Prop} {f : FuncId} {F : List Value → List Value} {pre : List Value → Bool} {A : List PS} (h : CSumOK P I ⟨f, F, pre, A, .one (.c .b)⟩) (hc : ∀ args w, (callFunc f args).run P w = .ok (.enter f args) w) {vs : List Value} (hk : KindsL (kindsL A) vs) (hp : pre vs = true) (ht : tru ((F vs).getD 0 undef) = true) {w : World} (hw : I w) :
    Calls P f (packL A vs).toArray w (RetV (.bool true) w) := by
  rcases h vs hk hp w hw with ⟨-, h2⟩ | ⟨v, h1, -⟩
  · refine h2.mono ?_
    rintro e w' ⟨v, rfl, hv, k, hb⟩
    refine ⟨?_, hb⟩
    subst hv
    simp only at k ⊢
    generalize F vs = l at *
    obtain ⟨_, _, rfl, ⟨b, rfl⟩, rfl⟩ := k
    have : b = true := ht
    subst this
    rfl
  · rw [hc] at h1; cases h1

/-! From a row's argument: the slice reads well. -/
section
variable {H : Type} {enc : TypeId × Value → H} {P : Program} {w : World} {base : Nat} {spare : Nat → Bool} {held : Bool}
def noO : List SK → Bool
  | [] => true
  | .o :: _ => false
  | _ :: κs => noO κs
theorem isK_of {κ : SK} {κs : List SK} {v : Value} (hn : noO (κ :: κs) = true) (h : inKind κ v) : isK κ v = true ∧ noO κs = true := by
  cases κ with
  | i k =>
    obtain ⟨n, rfl, h3, h4⟩ := h
    refine ⟨?_, hn⟩
    simp only [isK, decide_eq_true h3, decide_eq_true h4, Bool.and_true]
    cases k <;> rfl
  | b => obtain ⟨t, rfl⟩ := h; exact ⟨rfl, hn⟩
  | s => obtain ⟨t, rfl⟩ := h; exact ⟨rfl, hn⟩
  | o => cases hn
theorem rdAll_of {a : Addr} : ∀ {κs : List SK} {cs : List Value} {i : Nat}, noO κs = true → KindsL κs cs → (∀ j v, cs[j]? = some v → w.cell? (a.add (i + j)) = some v) → rdAll w.cell? a i κs = true
  | [], _, _, _, _, _ => rfl
  | κ :: κs, cs, i, hn, hk, hc => by
    obtain ⟨v, us, rfl, h1, h2⟩ := hk
    obtain ⟨e1, e2⟩ := isK_of hn h1
    have e := hc 0 v rfl
    rw [Nat.add_zero] at e
    have ih := rdAll_of (a := a) (i := i + 1) e2 h2 (fun j v hj => by
      have := hc (j + 1) v (by simpa using hj)
      rwa [show i + (j + 1) = i + 1 + j by omega] at this)
    simp only [rdAll, e, ih, e1, Bool.and_true]
theorem sliceB_of {t e : TypeId} {κs : List SK} {n b0 : Nat} {r : Reach} {v : Value} {d : DataW H} {ps : List MemPlace} (ht : P.underlying t = some (.slice e)) (hp : plainT P n e = some κs) (hl : P.cellsOf e = κs.length) (hn : noO κs = true)
    (hv : Value.okWide P w r b0 t v) (h : DataW.Trod enc P w base spare held t v d ps) : sliceB w.cell? κs v = true := by
  obtain ⟨a0, len, cap, rfl⟩ := Go.WideShapes.okWide_slice ht hv
  obtain ⟨m, hm⟩ := h
  rcases Go.Deep.open_slice ht hm with ⟨h0, -⟩ | ⟨a, len', cap', m', n', D, Pl, h0, -, hlc, hcm, hm', -, hx⟩
  · simp [Value.cells] at h0
    obtain ⟨rfl, rfl, rfl⟩ := h0
    rfl
  · simp [Value.cells] at h0
    obtain ⟨rfl, rfl, rfl⟩ := h0
    simp only [sliceB, Bool.and_eq_true, decide_eq_true_eq]
    refine ⟨by simp only [maxLen] at hcm; omega, List.all_eq_true.2 fun j hj => ?_⟩
    have hj' : j < len := by simpa using hj
    obtain ⟨cs', h1, h2⟩ := hx j (by rw [hm']; split <;> omega)
    rw [hl] at h1
    obtain ⟨-, -, hcell⟩ := World.cells?_some h1
    refine rdAll_of hn (plain_ok n e κs hp _ _ _ h2) (fun i u hu => ?_)
    have hi : i < κs.length := by
      have := (List.getElem?_eq_some_iff.1 hu).1
      rw [← (plain_ok n e κs hp _ _ _ h2).length]
      exact this
    rw [Nat.zero_add, hcell i hi, hu]
end
end Go.Proofs.YtjgmipklbpghfaaDoor
