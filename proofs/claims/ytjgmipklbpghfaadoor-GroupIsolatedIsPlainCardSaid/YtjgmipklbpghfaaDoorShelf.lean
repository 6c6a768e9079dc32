/- The contracts of math/bits (Mul64, Len64, LeadingZeros64, Add64, Sub64) of the shelf, laid at this translation: every argument of the type. Written out of lay-plain's print. -/
import Derived.Shelf.Small.Bits
import Derived.Shelf.Strconv.Itoa0
import Derived.Shelf.Bits.Mul64
import Derived.Shelf.Spec.BitsCarry
import Derived.Test.YtjgmipklbpghfaaDoorProg
namespace Go.Proofs.YtjgmipklbpghfaaDoor
open Go.Shelf
def lays134_ren : Go.Shelf.Ren := ⟨fun | 134 => 107 | 129 => 109 | n => n, fun | 53 => 67 | 3 => 3 | 4 => 4 | 46 => 113 | 5 => 5 | 9 => 9 | n => n, fun | n => n⟩
theorem lays134 : Go.Proofs.Lays.n134 Tryd.prog lays134_ren := {
  mixed := by kernel_rfl
  f129 := Tryd.func109.trans (congrArg some (by kernel_rfl))
  f134 := Tryd.func107.trans (congrArg some (by kernel_rfl))
  t3 := Tryd.underlying3
  a3 := Tryd.isAgg3
  z3 := Tryd.sizeOf3
  v3 := Tryd.zeroValue3
  t4 := Tryd.underlying4
  a4 := Tryd.isAgg4
  z4 := Tryd.sizeOf4
  v4 := Tryd.zeroValue4
  t5 := Tryd.underlying5
  a5 := Tryd.isAgg5
  z5 := Tryd.sizeOf5
  v5 := Tryd.zeroValue5
  t9 := Tryd.underlying9
  a9 := Tryd.isAgg9
  z9 := Tryd.sizeOf9
  v9 := Tryd.zeroValue9
  t46 := Tryd.underlying113
  a46 := Tryd.isAgg113
  z46 := Tryd.sizeOf113
  v46 := Tryd.zeroValue113
  t53 := Tryd.underlying67
  a53 := Tryd.isAgg67
  z53 := Tryd.sizeOf67
  v53 := Tryd.zeroValue67 }
theorem bits_LeadingZeros64 (x : Int) (w : World) (h0 : 0 ≤ x) (h1 : x ≤ 18446744073709551615) :
    Calls Tryd.prog 107 #[.int .u64 x] w fun e w' => e = .returned (.int .i64 (64 - (Lib.bitLen x.toNat : Int))) ∧ w' = w := Any.bits_LeadingZeros64 lays134 x w h0 h1
def lays264_ren : Go.Shelf.Ren := ⟨fun | 264 => 80 | n => n, fun | 53 => 67 | 46 => 113 | n => n, fun | n => n⟩
theorem lays264 : Go.Proofs.Lays.n264 Tryd.prog lays264_ren := {
  mixed := by kernel_rfl
  f264 := Tryd.func80.trans (congrArg some (by kernel_rfl))
  t46 := Tryd.underlying113
  a46 := Tryd.isAgg113
  z46 := Tryd.sizeOf113
  v46 := Tryd.zeroValue113
  t53 := Tryd.underlying67
  a53 := Tryd.isAgg67
  z53 := Tryd.sizeOf67
  v53 := Tryd.zeroValue67 }
theorem bits_Mul64 (x y : Nat) (hx : x < 18446744073709551616) (hy : y < 18446744073709551616) (w : World) :
    Calls Tryd.prog 80 #[.int .u64 x, .int .u64 y] w fun e w' => e = .returned (.tuple #[.int .u64 ((x * y / 18446744073709551616 : Nat) : Int), .int .u64 ((x * y % 18446744073709551616 : Nat) : Int)]) ∧ w' = w := Any.bits_Mul64 lays264 x y hx hy w
def lays25_ren : Go.Shelf.Ren := ⟨fun | 25 => 79 | n => n, fun | 22 => 67 | n => n, fun | n => n⟩
theorem lays25 : Go.Proofs.Lays7.n25 Tryd.prog lays25_ren := {
  mixed := by kernel_rfl
  f25 := Tryd.func79.trans (congrArg some (by kernel_rfl))
  t22 := Tryd.underlying67
  a22 := Tryd.isAgg67
  z22 := Tryd.sizeOf67
  v22 := Tryd.zeroValue67
  i22 := by kernel_rfl }
def lays26_ren : Go.Shelf.Ren := ⟨fun | 26 => 96 | n => n, fun | 22 => 67 | n => n, fun | n => n⟩
theorem lays26 : Go.Proofs.Lays7.n26 Tryd.prog lays26_ren := {
  mixed := by kernel_rfl
  f26 := Tryd.func96.trans (congrArg some (by kernel_rfl))
  t22 := Tryd.underlying67
  a22 := Tryd.isAgg67
  z22 := Tryd.sizeOf67
  v22 := Tryd.zeroValue67
  i22 := by kernel_rfl }

/- Over Int, with the numbers written out: the forms that a walk meets. -/
theorem add64 (x y c : Int) (hx : 0 ≤ x) (hy : 0 ≤ y) (hc0 : 0 ≤ c) (hc : c ≤ 1) (w : World) : (callFunc 79 #[.int .u64 x, .int .u64 y, .int .u64 c]).run Tryd.prog w =
    .ok (.value (.tuple #[.int .u64 ((x + y + c) % 18446744073709551616), .int .u64 ((x + y + c) / 18446744073709551616)])) w := by
  obtain ⟨x, rfl⟩ := Int.eq_ofNat_of_zero_le hx
  obtain ⟨y, rfl⟩ := Int.eq_ofNat_of_zero_le hy
  obtain ⟨c, rfl⟩ := Int.eq_ofNat_of_zero_le hc0
  refine (Any7.bits_Add64 lays25 x y c (by omega) w).trans ?_
  congr 5 <;> omega
theorem sub64 (x y b : Int) (hx : 0 ≤ x) (hy : 0 ≤ y) (hy' : y < 18446744073709551616) (hb0 : 0 ≤ b) (hb : b ≤ 1) (w : World) : (callFunc 96 #[.int .u64 x, .int .u64 y, .int .u64 b]).run Tryd.prog w =
    .ok (.value (.tuple #[.int .u64 ((x - y - b) % 18446744073709551616), .int .u64 (if x < y + b then 1 else 0)])) w := by
  obtain ⟨x, rfl⟩ := Int.eq_ofNat_of_zero_le hx
  obtain ⟨y, rfl⟩ := Int.eq_ofNat_of_zero_le hy
  obtain ⟨b, rfl⟩ := Int.eq_ofNat_of_zero_le hb0
  have e1 : (((x + 18446744073709551616 - y - b) % 18446744073709551616 : Nat) : Int) = ((x : Int) - y - b) % 18446744073709551616 := by omega
  have e2 : ((if x < y + b then 1 else 0 : Nat) : Int) = if (x : Int) < y + b then 1 else 0 := by split <;> split <;> omega
  rw [← e1, ← e2]
  exact Any7.bits_Sub64 lays26 x y b (by omega) w
theorem add64_0 (x y : Int) (hx : 0 ≤ x) (hy : 0 ≤ y) (w : World) : (callFunc 79 #[.int .u64 x, .int .u64 y, .int .u64 0]).run Tryd.prog w =
    .ok (.value (.tuple #[.int .u64 ((x + y) % 18446744073709551616), .int .u64 ((x + y) / 18446744073709551616)])) w := by
  simpa using add64 x y 0 hx hy (Int.le_refl 0) (by decide) w
def bor (x y : Int) : Int := if x < y then 1 else 0
theorem bor01 (x y : Int) : 0 ≤ bor x y ∧ bor x y ≤ 1 := by unfold bor; split <;> decide
theorem sub64' (x y b : Int) (hx : 0 ≤ x) (hy : 0 ≤ y) (hy' : y < 18446744073709551616) (hb0 : 0 ≤ b) (hb : b ≤ 1) (w : World) : (callFunc 96 #[.int .u64 x, .int .u64 y, .int .u64 b]).run Tryd.prog w =
    .ok (.value (.tuple #[.int .u64 ((x - y - b) % 18446744073709551616), .int .u64 (bor x (y + b))])) w := sub64 x y b hx hy hy' hb0 hb w
theorem sub64_0 (x y : Int) (hx : 0 ≤ x) (hy : 0 ≤ y) (hy' : y < 18446744073709551616) (w : World) : (callFunc 96 #[.int .u64 x, .int .u64 y, .int .u64 0]).run Tryd.prog w =
    .ok (.value (.tuple #[.int .u64 ((x - y) % 18446744073709551616), .int .u64 (bor x y)])) w := by
  simpa [bor] using sub64 x y 0 hx hy hy' (Int.le_refl 0) (by decide) w
theorem mul64 (x y : Int) (hx : 0 ≤ x) (hx' : x < 18446744073709551616) (hy : 0 ≤ y) (hy' : y < 18446744073709551616) (w : World) :
    Calls Tryd.prog 80 #[.int .u64 x, .int .u64 y] w fun e w' => ∃ h l : Int, e = .returned (.tuple #[.int .u64 h, .int .u64 l]) ∧ 0 ≤ h ∧ h < 18446744073709551616 ∧ 0 ≤ l ∧ l < 18446744073709551616 ∧ h * 18446744073709551616 + l = x * y ∧ w = w' := by
  obtain ⟨x, rfl⟩ := Int.eq_ofNat_of_zero_le hx
  obtain ⟨y, rfl⟩ := Int.eq_ofNat_of_zero_le hy
  refine (bits_Mul64 x y (by omega) (by omega) w).mono ?_
  rintro e w' ⟨rfl, rfl⟩
  have hb : x * y ≤ 18446744073709551615 * 18446744073709551615 := Nat.mul_le_mul (by omega) (by omega)
  rw [← Int.natCast_mul]
  generalize x * y = z at *
  exact ⟨_, _, rfl, by omega, by omega, by omega, by omega, by omega, rfl⟩
end Go.Proofs.YtjgmipklbpghfaaDoor
