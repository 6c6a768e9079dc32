/- Walks of package wide: Compare, MulSmall; of cmp.Or at two numbers. No condition but the words' own range. -/
import Derived.Test.YtjgmipklbpghfaaDoorWideA
namespace Go.Proofs.YtjgmipklbpghfaaDoor
set_option maxRecDepth 100000
open Go.RowKit

/-- The first number that is not 0. -/
def orI (x y : Int) : Int := if x = 0 then y else x
theorem cmpOr (x y : Int) (w : World) (b : Nat) (c0 : w.cell? ⟨b, 0, none⟩ = some (.int .i64 x)) (c1 : w.cell? ⟨b, 1, none⟩ = some (.int .i64 y)) :
    Calls Tryd.prog 105 #[.slice (some ⟨b, 0, none⟩) 2 2] w fun e w' => e = .returned (.int .i64 (orI x y)) ∧ w' = w := by
  by_cases h1 : x = 0
  · subst h1
    by_cases h2 : y = 0
    · subst h2
      go_enter Tryd.func105, Tryd.ntmps105
      go_wp2
      go_rounds 3
      go_ret
      exact ⟨rfl, rfl⟩
    · have h3 : (y == 0) = false := by simpa using h2
      have h4 : (y != 0) = true := by simpa using h2
      go_enter Tryd.func105, Tryd.ntmps105
      go_wp2
      go_rounds 3
      go_ret
      exact ⟨rfl, rfl⟩
  · have h3 : (x == 0) = false := by simpa using h1
    have h4 : (x != 0) = true := by simpa using h1
    have e : orI x y = x := if_neg h1
    rw [e]
    clear h1 e
    go_enter Tryd.func105, Tryd.ntmps105
    go_wp2
    go_rounds 3
    go_ret
    exact ⟨rfl, rfl⟩

theorem orI_cmp {ah al A bh bl B : Int} (ha : IsU ah al A) (hb : IsU bh bl B) : orI (cmpI ah bh) (cmpI al bl) = cmpI A B := by
  obtain ⟨a0, a1, a2, a3, a4⟩ := ha
  obtain ⟨b0, b1, b2, b3, b4⟩ := hb
  unfold orI cmpI
  by_cases h1 : ah < bh
  · rw [if_pos h1, if_neg (by decide), if_pos (by omega)]
  rw [if_neg h1]
  by_cases h2 : ah = bh
  · rw [if_pos h2, if_pos rfl]
    by_cases h3 : al < bl
    · rw [if_pos h3, if_pos (by omega)]
    by_cases h4 : al = bl
    · rw [if_neg h3, if_pos h4, if_neg (by omega), if_pos (by omega)]
    · rw [if_neg h3, if_neg h4, if_neg (by omega), if_neg (by omega)]
  · rw [if_neg h2, if_neg (by decide), if_neg (by omega), if_neg (by omega)]

theorem wCompare (ah al A bh bl B : Int) (ha : IsU ah al A) (hb : IsU bh bl B) (w : World) :
    Calls Tryd.prog 94 #[.agg #[.int .u64 ah, .int .u64 al], .agg #[.int .u64 bh, .int .u64 bl]] w (RetV (.int .i64 (cmpI A B)) w) := by
  rw [← orI_cmp ha hb]
  clear ha hb A B
  go_enter Tryd.func94, Tryd.ntmps94
  go_wp2
  refine wp_region_still_tail 10 (by kernel_rfl) (by kernel_rfl) ?_
  simp only [List.take_succ_cons, List.take_zero, List.drop_succ_cons, List.drop_zero]
  change wpStill _ _ (((w.alloc (.cells #[.int .u64 ah, .int .u64 al] 71)).alloc (.cells #[.int .u64 bh, .int .u64 bl] 71)).drew) _ _ _
  repeat still_step
  still_call (cmpCompare ah bh _)
  repeat still_step
  still_call (cmpCompare al bl _)
  refine wpStill_nil ?_
  change wpList _ _ _ _ _ (((w.alloc (.cells #[.int .u64 ah, .int .u64 al] 71)).alloc (.cells #[.int .u64 bh, .int .u64 bl] 71)).drew)
  go_wp2_with fail
  refine (cmpOr (cmpI ah bh) (cmpI al bl) _ _ (by simp [go_sem]) (by simp [go_sem])).mono ?_
  rintro e w1 ⟨rfl, rfl⟩
  go_wp2
  go_ret
  exact ⟨rfl, by go_grown⟩
end Go.Proofs.YtjgmipklbpghfaaDoor
