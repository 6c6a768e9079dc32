/- Plain words that the walks' contracts use: what a call hands back, and that old memory stands. No condition. -/
import Derived.WalkKit
import Derived.WalkSpells
import Derived.WalkLawsBesides
import Derived.Handy
import Derived.Lib.Hide
import Derived.Deep.QuietTactic
import Derived.BigQuiet
import Derived.Deep.RegionHeld3
import Derived.StillTailTactics
import Derived.Deep.Draws
namespace Go.Proofs.YtjgmipklbpghfaaDoor
open Go.RowKit

/-- Behind a call that left old memory alone: three rules of the walk. -/
theorem bcell {W w1 : World} (hb : Below W.heap.size W w1) : (∀ b o, b < W.heap.size → w1.cell? ⟨b, o, none⟩ = W.cell? ⟨b, o, none⟩) ∧ (∀ b o, b < W.heap.size → w1.frozen? ⟨b, o, none⟩ = W.frozen? ⟨b, o, none⟩) ∧ (∀ k, k < W.heap.size → k < w1.heap.size) :=
  ⟨fun b o h => hb.cell (p := ⟨b, o, none⟩) h, fun b o h => hb.frozen (p := ⟨b, o, none⟩) h, fun _ h => Nat.lt_of_lt_of_le h hb.size⟩

/-- The same, and what the walk's end needs: from the call's first world on. -/
theorem after {w0 W w1 : World} (hb : Below W.heap.size W w1) (h0 : Below w0.heap.size w0 W) : Below w0.heap.size w0 w1 ∧ w0.heap.size ≤ w1.heap.size ∧
    (∀ b o, b < W.heap.size → w1.cell? ⟨b, o, none⟩ = W.cell? ⟨b, o, none⟩) ∧ (∀ b o, b < W.heap.size → w1.frozen? ⟨b, o, none⟩ = W.frozen? ⟨b, o, none⟩) ∧ (∀ k, k < W.heap.size → k < w1.heap.size) :=
  ⟨h0.trans (hb.mono h0.size), Nat.le_trans h0.size hb.size, bcell hb⟩

theorem bdrewN {B : Nat} {a w : World} {n : Nat} (h : Below B a w) : Below B a (w.drewN n) := ⟨h.os, h.tape, h.output, h.size, h.block⟩

/-- A word of 64 bits; two words that make a number of 128 bits. -/
def IsW (x : Int) : Prop := 0 ≤ x ∧ x < 18446744073709551616
def IsU (h l X : Int) : Prop := 0 ≤ h ∧ h < 18446744073709551616 ∧ 0 ≤ l ∧ l < 18446744073709551616 ∧ h * 18446744073709551616 + l = X
theorem IsU.hi {h l X : Int} (u : IsU h l X) : IsW h := ⟨u.1, u.2.1⟩
theorem IsU.lo {h l X : Int} (u : IsU h l X) : IsW l := ⟨u.2.2.1, u.2.2.2.1⟩
theorem IsU.eq {h l X : Int} (u : IsU h l X) : h * 18446744073709551616 + l = X := u.2.2.2.2
theorem IsU.nn {h l X : Int} (u : IsU h l X) : 0 ≤ X := by obtain ⟨_, _, _, _, _⟩ := u; omega
theorem IsU.lt {h l X : Int} (u : IsU h l X) : X < 340282366920938463463374607431768211456 := by obtain ⟨_, _, _, _, _⟩ := u; omega
theorem IsU.ext {h l h' l' X : Int} (u : IsU h l X) (v : IsU h' l' X) : h = h' ∧ l = l' := by obtain ⟨_, _, _, _, _⟩ := u; obtain ⟨_, _, _, _, _⟩ := v; omega
theorem IsU.of_lo {l : Int} (u : IsW l) : IsU 0 l l := by obtain ⟨_, _⟩ := u; exact ⟨by omega, by omega, by omega, by omega, by omega⟩
theorem IsU.zero : IsU 0 0 0 := ⟨by decide, by decide, by decide, by decide, by decide⟩

/-- A number of 128 bits is handed back. -/
def RetU (X : Int) (w : World) (e : Ending) (w' : World) : Prop :=
  ∃ h l : Int, e = .returned (.agg #[.int .u64 h, .int .u64 l]) ∧ IsU h l X ∧ Below w.heap.size w w'
/-- A number of 128 bits and a bool are handed back. -/
def RetUB (X : Int) (b : Bool) (w : World) (e : Ending) (w' : World) : Prop :=
  ∃ h l : Int, e = .returned (.tuple #[.agg #[.int .u64 h, .int .u64 l], .bool b]) ∧ IsU h l X ∧ Below w.heap.size w w'
/-- A known value is handed back. -/
def RetV (v : Value) (w : World) (e : Ending) (w' : World) : Prop := e = .returned v ∧ Below w.heap.size w w'

/-- The sign of a comparison. -/
def cmpI (x y : Int) : Int := if x < y then -1 else if x = y then 0 else 1
theorem cmpI_lt {x y : Int} (h : x < y) : cmpI x y = -1 := by simp [cmpI, h]
theorem cmpI_eq (x : Int) : cmpI x x = 0 := by simp [cmpI]
theorem cmpI_gt {x y : Int} (h : y < x) : cmpI x y = 1 := by unfold cmpI; rw [if_neg (by omega), if_neg (by omega)]
end Go.Proofs.YtjgmipklbpghfaaDoor
