/- Words for walks; the shelf. No condition. -/
import Derived.Shelf.Small.Bits
import Derived.Shelf.Strconv.Itoa0
import Derived.Shelf.Bits.Mul64
import Derived.Shelf.Spec.BitsCarry
import Derived.Test.YtdioaiepkhepaaaGreatDoorProg
import Derived.WalkKit
import Derived.WalkSpells
import Derived.WalkLawsBesides
import Derived.Handy
import Derived.Lib.Hide
import Derived.Deep.QuietTactic
import Derived.BigQuiet
import Derived.Deep.RegionHeld3
import Derived.StillTailTactics
import Derived.Deep.Draws
namespace Go.Proofs.YtdioaiepkhepaaaGreatDoor
open Go.Shelf
def lays134_ren : Go.Shelf.Ren := ⟨fun | 134 => 129 | 129 => 131 | n => n, fun | 53 => 95 | 3 => 3 | 4 => 4 | 46 => 110 | 5 => 5 | 9 => 9 | n => n, fun | n => n⟩
theorem lays134 : Go.Proofs.Lays.n134 Tryz.prog lays134_ren := {
 mixed := by kernel_rfl
 f129 := Tryz.func131.trans (congrArg some (by kernel_rfl))
 f134 := Tryz.func129.trans (congrArg some (by kernel_rfl))
 t3 := Tryz.underlying3
 a3 := Tryz.isAgg3
 z3 := Tryz.sizeOf3
 v3 := Tryz.zeroValue3
 t4 := Tryz.underlying4
 a4 := Tryz.isAgg4
 z4 := Tryz.sizeOf4
 v4 := Tryz.zeroValue4
 t5 := Tryz.underlying5
 a5 := Tryz.isAgg5
 z5 := Tryz.sizeOf5
 v5 := Tryz.zeroValue5
 t9 := Tryz.underlying9
 a9 := Tryz.isAgg9
 z9 := Tryz.sizeOf9
 v9 := Tryz.zeroValue9
 t46 := Tryz.underlying110
 a46 := Tryz.isAgg110
 z46 := Tryz.sizeOf110
 v46 := Tryz.zeroValue110
 t53 := Tryz.underlying95
 a53 := Tryz.isAgg95
 z53 := Tryz.sizeOf95
 v53 := Tryz.zeroValue95 }
theorem bits_LeadingZeros64 (x : Int) (w : World) (h0 : 0 ≤ x) (h1 : x ≤ 18446744073709551615) :
 Calls Tryz.prog 129 #[.int .u64 x] w fun e w' => e = .returned (.int .i64 (64 - (Lib.bitLen x.toNat : Int))) ∧ w' = w := Any.bits_LeadingZeros64 lays134 x w h0 h1
def lays264_ren : Go.Shelf.Ren := ⟨fun | 264 => 102 | n => n, fun | 53 => 95 | 46 => 110 | n => n, fun | n => n⟩
theorem lays264 : Go.Proofs.Lays.n264 Tryz.prog lays264_ren := {
 mixed := by kernel_rfl
 f264 := Tryz.func102.trans (congrArg some (by kernel_rfl))
 t46 := Tryz.underlying110
 a46 := Tryz.isAgg110
 z46 := Tryz.sizeOf110
 v46 := Tryz.zeroValue110
 t53 := Tryz.underlying95
 a53 := Tryz.isAgg95
 z53 := Tryz.sizeOf95
 v53 := Tryz.zeroValue95 }
theorem bits_Mul64 (x y : Nat) (hx : x < 18446744073709551616) (hy : y < 18446744073709551616) (w : World) :
 Calls Tryz.prog 102 #[.int .u64 x, .int .u64 y] w fun e w' => e = .returned (.tuple #[.int .u64 ((x * y / 18446744073709551616 : Nat) : Int), .int .u64 ((x * y % 18446744073709551616 : Nat) : Int)]) ∧ w' = w := Any.bits_Mul64 lays264 x y hx hy w
def lays25_ren : Go.Shelf.Ren := ⟨fun | 25 => 101 | n => n, fun | 22 => 95 | n => n, fun | n => n⟩
theorem lays25 : Go.Proofs.Lays7.n25 Tryz.prog lays25_ren := {
 mixed := by kernel_rfl
 f25 := Tryz.func101.trans (congrArg some (by kernel_rfl))
 t22 := Tryz.underlying95
 a22 := Tryz.isAgg95
 z22 := Tryz.sizeOf95
 v22 := Tryz.zeroValue95
 i22 := by kernel_rfl }
def lays26_ren : Go.Shelf.Ren := ⟨fun | 26 => 118 | n => n, fun | 22 => 95 | n => n, fun | n => n⟩
theorem lays26 : Go.Proofs.Lays7.n26 Tryz.prog lays26_ren := {
 mixed := by kernel_rfl
 f26 := Tryz.func118.trans (congrArg some (by kernel_rfl))
 t22 := Tryz.underlying95
 a22 := Tryz.isAgg95
 z22 := Tryz.sizeOf95
 v22 := Tryz.zeroValue95
 i22 := by kernel_rfl }
theorem add64 (x y c : Int) (hx : 0 ≤ x) (hy : 0 ≤ y) (hc0 : 0 ≤ c) (hc : c ≤ 1) (w : World) : (callFunc 101 #[.int .u64 x, .int .u64 y, .int .u64 c]).run Tryz.prog w =
 .ok (.value (.tuple #[.int .u64 ((x + y + c) % 18446744073709551616), .int .u64 ((x + y + c) / 18446744073709551616)])) w := by
 obtain ⟨x, rfl⟩ := Int.eq_ofNat_of_zero_le hx
 obtain ⟨y, rfl⟩ := Int.eq_ofNat_of_zero_le hy
 obtain ⟨c, rfl⟩ := Int.eq_ofNat_of_zero_le hc0
 refine (Any7.bits_Add64 lays25 x y c (by omega) w).trans ?_
 congr 5 <;> omega
theorem sub64 (x y b : Int) (hx : 0 ≤ x) (hy : 0 ≤ y) (hy' : y < 18446744073709551616) (hb0 : 0 ≤ b) (hb : b ≤ 1) (w : World) : (callFunc 118 #[.int .u64 x, .int .u64 y, .int .u64 b]).run Tryz.prog w =
 .ok (.value (.tuple #[.int .u64 ((x - y - b) % 18446744073709551616), .int .u64 (if x < y + b then 1 else 0)])) w := by
 obtain ⟨x, rfl⟩ := Int.eq_ofNat_of_zero_le hx
 obtain ⟨y, rfl⟩ := Int.eq_ofNat_of_zero_le hy
 obtain ⟨b, rfl⟩ := Int.eq_ofNat_of_zero_le hb0
 have e1 : (((x + 18446744073709551616 - y - b) % 18446744073709551616 : Nat) : Int) = ((x : Int) - y - b) % 18446744073709551616 := by omega
 have e2 : ((if x < y + b then 1 else 0 : Nat) : Int) = if (x : Int) < y + b then 1 else 0 := by split <;> split <;> omega
 rw [← e1, ← e2]
 exact Any7.bits_Sub64 lays26 x y b (by omega) w
theorem add64_0 (x y : Int) (hx : 0 ≤ x) (hy : 0 ≤ y) (w : World) : (callFunc 101 #[.int .u64 x, .int .u64 y, .int .u64 0]).run Tryz.prog w =
 .ok (.value (.tuple #[.int .u64 ((x + y) % 18446744073709551616), .int .u64 ((x + y) / 18446744073709551616)])) w := by
 simpa using add64 x y 0 hx hy (Int.le_refl 0) (by decide) w
def bor (x y : Int) : Int := if x < y then 1 else 0
theorem bor01 (x y : Int) : 0 ≤ bor x y ∧ bor x y ≤ 1 := by unfold bor; split <;> decide
theorem sub64' (x y b : Int) (hx : 0 ≤ x) (hy : 0 ≤ y) (hy' : y < 18446744073709551616) (hb0 : 0 ≤ b) (hb : b ≤ 1) (w : World) : (callFunc 118 #[.int .u64 x, .int .u64 y, .int .u64 b]).run Tryz.prog w =
 .ok (.value (.tuple #[.int .u64 ((x - y - b) % 18446744073709551616), .int .u64 (bor x (y + b))])) w := sub64 x y b hx hy hy' hb0 hb w
theorem sub64_0 (x y : Int) (hx : 0 ≤ x) (hy : 0 ≤ y) (hy' : y < 18446744073709551616) (w : World) : (callFunc 118 #[.int .u64 x, .int .u64 y, .int .u64 0]).run Tryz.prog w =
 .ok (.value (.tuple #[.int .u64 ((x - y) % 18446744073709551616), .int .u64 (bor x y)])) w := by
 simpa [bor] using sub64 x y 0 hx hy hy' (Int.le_refl 0) (by decide) w
theorem mul64 (x y : Int) (hx : 0 ≤ x) (hx' : x < 18446744073709551616) (hy : 0 ≤ y) (hy' : y < 18446744073709551616) (w : World) :
 Calls Tryz.prog 102 #[.int .u64 x, .int .u64 y] w fun e w' => ∃ h l : Int, e = .returned (.tuple #[.int .u64 h, .int .u64 l]) ∧ 0 ≤ h ∧ h < 18446744073709551616 ∧ 0 ≤ l ∧ l < 18446744073709551616 ∧ h * 18446744073709551616 + l = x * y ∧ w = w' := by
 obtain ⟨x, rfl⟩ := Int.eq_ofNat_of_zero_le hx
 obtain ⟨y, rfl⟩ := Int.eq_ofNat_of_zero_le hy
 refine (bits_Mul64 x y (by omega) (by omega) w).mono ?_
 rintro e w' ⟨rfl, rfl⟩
 have hb : x * y ≤ 18446744073709551615 * 18446744073709551615 := Nat.mul_le_mul (by omega) (by omega)
 rw [← Int.natCast_mul]
 generalize x * y = z at *
 exact ⟨_, _, rfl, by omega, by omega, by omega, by omega, by omega, rfl⟩
end Go.Proofs.YtdioaiepkhepaaaGreatDoor
namespace Go.Proofs.YtdioaiepkhepaaaGreatDoor
open Go.RowKit
theorem bcell {W w1 : World} (hb : Below W.heap.size W w1) : (∀ b o, b < W.heap.size → w1.cell? ⟨b, o, none⟩ = W.cell? ⟨b, o, none⟩) ∧ (∀ b o, b < W.heap.size → w1.frozen? ⟨b, o, none⟩ = W.frozen? ⟨b, o, none⟩) ∧ (∀ k, k < W.heap.size → k < w1.heap.size) :=
 ⟨fun b o h => hb.cell (p := ⟨b, o, none⟩) h, fun b o h => hb.frozen (p := ⟨b, o, none⟩) h, fun _ h => Nat.lt_of_lt_of_le h hb.size⟩
theorem after {w0 W w1 : World} (hb : Below W.heap.size W w1) (h0 : Below w0.heap.size w0 W) : Below w0.heap.size w0 w1 ∧ w0.heap.size ≤ w1.heap.size ∧
 (∀ b o, b < W.heap.size → w1.cell? ⟨b, o, none⟩ = W.cell? ⟨b, o, none⟩) ∧ (∀ b o, b < W.heap.size → w1.frozen? ⟨b, o, none⟩ = W.frozen? ⟨b, o, none⟩) ∧ (∀ k, k < W.heap.size → k < w1.heap.size) :=
 ⟨h0.trans (hb.mono h0.size), Nat.le_trans h0.size hb.size, bcell hb⟩
theorem bdrewN {B : Nat} {a w : World} {n : Nat} (h : Below B a w) : Below B a (w.drewN n) := ⟨h.os, h.tape, h.output, h.size, h.block⟩
def IsW (x : Int) : Prop := 0 ≤ x ∧ x < 18446744073709551616
def IsU (h l X : Int) : Prop := 0 ≤ h ∧ h < 18446744073709551616 ∧ 0 ≤ l ∧ l < 18446744073709551616 ∧ h * 18446744073709551616 + l = X
theorem IsU.hi {h l X : Int} (u : IsU h l X) : IsW h := ⟨u.1, u.2.1⟩
theorem IsU.lo {h l X : Int} (u : IsU h l X) : IsW l := ⟨u.2.2.1, u.2.2.2.1⟩
theorem IsU.eq {h l X : Int} (u : IsU h l X) : h * 18446744073709551616 + l = X := u.2.2.2.2
theorem IsU.nn {h l X : Int} (u : IsU h l X) : 0 ≤ X := by obtain ⟨_, _, _, _, _⟩ := u; omega
theorem IsU.lt {h l X : Int} (u : IsU h l X) : X < 340282366920938463463374607431768211456 := by obtain ⟨_, _, _, _, _⟩ := u; omega
theorem IsU.ext {h l h' l' X : Int} (u : IsU h l X) (v : IsU h' l' X) : h = h' ∧ l = l' := by obtain ⟨_, _, _, _, _⟩ := u; obtain ⟨_, _, _, _, _⟩ := v; omega
theorem IsU.zero : IsU 0 0 0 := ⟨by decide, by decide, by decide, by decide, by decide⟩
def RetU (X : Int) (w : World) (e : Ending) (w' : World) : Prop :=
 ∃ h l : Int, e = .returned (.agg #[.int .u64 h, .int .u64 l]) ∧ IsU h l X ∧ Below w.heap.size w w'
def RetUB (X : Int) (b : Bool) (w : World) (e : Ending) (w' : World) : Prop :=
 ∃ h l : Int, e = .returned (.tuple #[.agg #[.int .u64 h, .int .u64 l], .bool b]) ∧ IsU h l X ∧ Below w.heap.size w w'
def RetV (v : Value) (w : World) (e : Ending) (w' : World) : Prop := e = .returned v ∧ Below w.heap.size w w'
def cmpI (x y : Int) : Int := if x < y then -1 else if x = y then 0 else 1
theorem cmpI_lt {x y : Int} (h : x < y) : cmpI x y = -1 := by simp [cmpI, h]
theorem cmpI_eq (x : Int) : cmpI x x = 0 := by simp [cmpI]
theorem cmpI_gt {x y : Int} (h : y < x) : cmpI x y = 1 := by unfold cmpI; rw [if_neg (by omega), if_neg (by omega)]
end Go.Proofs.YtdioaiepkhepaaaGreatDoor
