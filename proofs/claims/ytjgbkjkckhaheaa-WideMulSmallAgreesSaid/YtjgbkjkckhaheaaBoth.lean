/- The contracts of Add, Sub, MulSmall of wide and of ref01 in one form each: the number if it fits, else 0 and false. -/
import Derived.Test.YtjgbkjkckhaheaaRefC
namespace Go.Proofs.Ytjgbkjkckhaheaa
open Go.RowKit

/-- The number if it has 128 bits, else 0; and whether it has. -/
def capI (X : Int) : Int := if 0 ≤ X ∧ X < 340282366920938463463374607431768211456 then X else 0
def fitB (X : Int) : Bool := decide (0 ≤ X ∧ X < 340282366920938463463374607431768211456)
theorem capI_fit {X : Int} (h0 : 0 ≤ X) (h1 : X < 340282366920938463463374607431768211456) : capI X = X := if_pos ⟨h0, h1⟩
theorem capI_not {X : Int} (h : ¬ (0 ≤ X ∧ X < 340282366920938463463374607431768211456)) : capI X = 0 := if_neg h
theorem fitB_fit {X : Int} (h0 : 0 ≤ X) (h1 : X < 340282366920938463463374607431768211456) : fitB X = true := decide_eq_true ⟨h0, h1⟩
theorem fitB_not {X : Int} (h : ¬ (0 ≤ X ∧ X < 340282366920938463463374607431768211456)) : fitB X = false := decide_eq_false h

theorem wAdd (ah al A bh bl B : Int) (ha : IsU ah al A) (hb : IsU bh bl B) (w : World) :
    Calls Try.prog 28 #[.agg #[.int .u64 ah, .int .u64 al], .agg #[.int .u64 bh, .int .u64 bl]] w (RetUB (capI (A + B)) (fitB (A + B)) w) := by
  have := ha.nn
  have := hb.nn
  by_cases h : A + B < 340282366920938463463374607431768211456
  · rw [capI_fit (by omega) h, fitB_fit (by omega) h]; exact wAdd_fit ah al A bh bl B ha hb h w
  · rw [capI_not (by omega), fitB_not (by omega)]; exact wAdd_over ah al A bh bl B ha hb (by omega) w
theorem wSub (ah al A bh bl B : Int) (ha : IsU ah al A) (hb : IsU bh bl B) (w : World) :
    Calls Try.prog 29 #[.agg #[.int .u64 ah, .int .u64 al], .agg #[.int .u64 bh, .int .u64 bl]] w (RetUB (capI (A - B)) (fitB (A - B)) w) := by
  have := ha.lt
  have := hb.nn
  by_cases h : B ≤ A
  · rw [capI_fit (by omega) (by omega), fitB_fit (by omega) (by omega)]; exact wSub_fit ah al A bh bl B ha hb h w
  · rw [capI_not (by omega), fitB_not (by omega)]; exact wSub_neg ah al A bh bl B ha hb (by omega) w
theorem wMulSmallC (ah al A k : Int) (ha : IsU ah al A) (hk : IsW k) (w : World) :
    Calls Try.prog 24 #[.agg #[.int .u64 ah, .int .u64 al], .int .u64 k] w (RetUB (capI (A * k)) (fitB (A * k)) w) := by
  have h0 : 0 ≤ A * k := Int.mul_nonneg ha.nn hk.1
  by_cases h : A * k < 340282366920938463463374607431768211456
  · rw [capI_fit h0 h, fitB_fit h0 h]; exact wMulSmall_fit ah al A k ha hk h w
  · rw [capI_not (by omega), fitB_not (by omega)]; exact wMulSmall_over ah al A k ha hk (by omega) w
theorem rAdd (ah al A bh bl B : Int) (ha : IsU ah al A) (hb : IsU bh bl B) (w : World) :
    Calls Try.prog 22 #[.agg #[.int .u64 ah, .int .u64 al], .agg #[.int .u64 bh, .int .u64 bl]] w (RetUB (capI (A + B)) (fitB (A + B)) w) := by
  have := ha.nn
  have := hb.nn
  by_cases h : A + B < 340282366920938463463374607431768211456
  · rw [capI_fit (by omega) h, fitB_fit (by omega) h]; exact rAdd_fit ah al A bh bl B ha hb h w
  · rw [capI_not (by omega), fitB_not (by omega)]; exact rAdd_over ah al A bh bl B ha hb (by omega) w
theorem rSub (ah al A bh bl B : Int) (ha : IsU ah al A) (hb : IsU bh bl B) (w : World) :
    Calls Try.prog 31 #[.agg #[.int .u64 ah, .int .u64 al], .agg #[.int .u64 bh, .int .u64 bl]] w (RetUB (capI (A - B)) (fitB (A - B)) w) := by
  have := ha.lt
  have := hb.nn
  by_cases h : B ≤ A
  · rw [capI_fit (by omega) (by omega), fitB_fit (by omega) (by omega)]; exact rSub_fit ah al A bh bl B ha hb h w
  · rw [capI_not (by omega), fitB_not (by omega)]; exact rSub_neg ah al A bh bl B ha hb (by omega) w
theorem rMulSmallC (ah al A k : Int) (ha : IsU ah al A) (hk : IsW k) (w : World) :
    Calls Try.prog 21 #[.agg #[.int .u64 ah, .int .u64 al], .int .u64 k] w (RetUB (capI (A * k)) (fitB (A * k)) w) := by
  have h0 : 0 ≤ A * k := Int.mul_nonneg ha.nn hk.1
  by_cases h : A * k < 340282366920938463463374607431768211456
  · rw [capI_fit h0 h, fitB_fit h0 h]; exact rMulSmall_fit ah al A k ha hk h w
  · rw [capI_not (by omega), fitB_not (by omega)]; exact rMulSmall_over ah al A k ha hk (by omega) w
end Go.Proofs.Ytjgbkjkckhaheaa
