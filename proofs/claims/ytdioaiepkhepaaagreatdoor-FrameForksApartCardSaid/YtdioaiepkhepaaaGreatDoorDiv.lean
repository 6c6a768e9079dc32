/- Walk of math/bits.Div64: every high word below the divisor. -/
import Derived.Test.YtdioaiepkhepaaaGreatDoorGround
import Derived.Test.YtdioaiepkhepaaaGreatDoorNumMath
import Derived.WalkSpells
import Derived.WalkLawsBesides
import Derived.Handy
import Derived.Deep.Draws
namespace Go.Proofs.YtdioaiepkhepaaaGreatDoor
set_option maxRecDepth 100000
open Go.RowKit
theorem lead64 (y : Int) (y0 : 1 ≤ y) (y1 : y < 18446744073709551616) (w : World) :
 Calls Tryz.prog 129 #[.int .u64 y] w fun e w' => ∃ s : Nat, e = .returned (.int .i64 s) ∧ s ≤ 63 ∧ Hid (9223372036854775808 ≤ y * 2 ^ s ∧ y * 2 ^ s < 18446744073709551616) ∧ w = w' := by
 refine (bits_LeadingZeros64 y w (by omega) (by omega)).mono ?_
 rintro e w' ⟨rfl, rfl⟩
 obtain ⟨y, rfl⟩ := Int.eq_ofNat_of_zero_le (show 0 ≤ y by omega)
 rw [Int.toNat_natCast]
 obtain ⟨h1, h2, h3, h4⟩ := lead_pow y (by omega) (by omega)
 generalize Lib.bitLen y = n at *
 refine ⟨64 - n, ?_, by omega, ?_, rfl⟩
 ·congr 2; omega
 ·show _ ∧ _
  have e3 : (y : Int) * 2 ^ (64 - n) = ((y * 2 ^ (64 - n) : Nat) : Int) := by simp
  rw [e3]
  omega
theorem div_start (h l y : Int) (s : Nat) (hs : s ≤ 63) (h0 : 0 ≤ h) (h1 : h < y) (l0 : 0 ≤ l) (l1 : l < 18446744073709551616) (HS : 9223372036854775808 ≤ y * 2 ^ s ∧ y * 2 ^ s < 18446744073709551616) :
 ∃ Y yn1 yn0 u b un1 un0 : Int, IntKind.u64.wrap (y * 2 ^ s) = Y ∧ Y / 4294967296 = yn1 ∧ bits .and .u64 Y 4294967295 = yn0 ∧ bits .or .u64 (IntKind.u64.wrap (h * 2 ^ s)) (l / 2 ^ (64 - s)) = u ∧ IntKind.u64.wrap (l * 2 ^ s) = b ∧
  b / 4294967296 = un1 ∧ bits .and .u64 b 4294967295 = un0 ∧ 2147483648 ≤ yn1 ∧ yn1 < 4294967296 ∧ 0 ≤ yn0 ∧ yn0 < 4294967296 ∧ 0 ≤ u ∧ u < Y ∧ Y < 18446744073709551616 ∧ 0 ≤ b ∧ b < 18446744073709551616 ∧ 0 ≤ un1 ∧ un1 < 4294967296 ∧ 0 ≤ un0 ∧ un0 < 4294967296 ∧
  0 ≤ u / yn1 ∧ u / yn1 ≤ 4294967297 ∧ 0 ≤ u / yn1 * yn1 ∧ u / yn1 * yn1 ≤ u ∧ u - u / yn1 * yn1 < 4294967296 ∧ DInv Y yn1 yn0 u un1 (u / yn1) (u - u / yn1 * yn1) ∧ Hid (b = un1 * 4294967296 + un0 ∧ u * 18446744073709551616 + b = (h * 18446744073709551616 + l) * 2 ^ s ∧ Y = y * 2 ^ s) := by
 have hp : (0 : Int) < 2 ^ s := Int.pow_pos (by decide)
 have hh : h * 2 ^ s + 2 ^ s ≤ y * 2 ^ s := by
  have : (h + 1) * 2 ^ s ≤ y * 2 ^ s := Int.mul_le_mul_of_nonneg_right (by omega) (Int.le_of_lt hp)
  rw [Int.add_mul, Int.one_mul] at this
  exact this
 obtain ⟨u, b, eu, eb, u0, u1, b0, b1, hN⟩ := shl_join h l s hs h0 (by omega) l0 l1
 have hlt : u < y * 2 ^ s := by
  have e : (h * 18446744073709551616 + l) * 2 ^ s = h * 2 ^ s * 18446744073709551616 + l * 2 ^ s := by rw [Int.add_mul, Int.mul_right_comm]
  have : l * 2 ^ s ≤ 18446744073709551615 * 2 ^ s := Int.mul_le_mul_of_nonneg_right (by omega) (Int.le_of_lt hp)
  omega
 generalize hY : y * 2 ^ s = Y at *
 have d := dinit (Y := Y) (yn1 := Y / 4294967296) (yn0 := Y % 4294967296) (u := u) (un := b / 4294967296) (by omega) (by omega) (by omega) (by omega) (by omega) u0 hlt (by omega) (by omega)
 have d' := d
 obtain ⟨-, -, -, -, -, -, -, -, -, q0, q1, r0, -, -⟩ := d
 have r1 : u - u / (Y / 4294967296) * (Y / 4294967296) < 4294967296 := by
  have e := Int.emod_add_mul_ediv u (Y / 4294967296)
  have b1 := Int.emod_lt_of_pos u (show 0 < Y / 4294967296 by omega)
  rw [Int.mul_comm] at e
  omega
 have e : 0 ≤ u / (Y / 4294967296) * (Y / 4294967296) := Int.mul_nonneg q0 (by omega)
 exact ⟨Y, _, _, u, b, _, _, by rw [IntKind.wrap_u64]; omega, rfl, mask32 Y (by omega) (by omega), eu, eb, rfl, mask32 b b0 b1, by omega, by omega, by omega, by omega, u0, hlt, by omega, b0, b1, by omega, by omega, by omega, by omega, q0, q1, e, by omega, r1, d', by omega, hN, rfl⟩
theorem div_mid {Y yn1 yn0 u un1 un0 q : Int} (hf : DFin Y u un1 q) (hY : Y = yn1 * 4294967296 + yn0) (a1 : 2147483648 ≤ yn1) (a2 : yn1 < 4294967296) (a3 : 0 ≤ yn0) (a4 : yn0 < 4294967296) (a7 : Y < 18446744073709551616) (a12 : 0 ≤ un0) (a13 : un0 < 4294967296) :
 ∃ U : Int, IntKind.u64.wrap (IntKind.u64.wrap (IntKind.u64.wrap (u * 4294967296) + un1) - IntKind.u64.wrap (q * Y)) = U ∧ 0 ≤ q ∧ q < 4294967296 ∧ 0 ≤ U ∧ U < Y ∧ 0 ≤ U / yn1 ∧ U / yn1 ≤ 4294967297 ∧ 0 ≤ U / yn1 * yn1 ∧ U / yn1 * yn1 ≤ U ∧ U - U / yn1 * yn1 < 4294967296 ∧ DInv Y yn1 yn0 U un0 (U / yn1) (U - U / yn1 * yn1) ∧ Hid (U = u * 4294967296 + un1 - q * Y) := by
 obtain ⟨f0, f1, f2, f3⟩ := hf
 have e := dwrap (a := u) (b := un1) (c := q * Y) rfl f2 (by omega)
 generalize u * 4294967296 + un1 - q * Y = U at *
 have d := dinit (Y := Y) hY a1 a2 a3 a4 f2 f3 a12 a13
 have d' := d
 obtain ⟨-, -, -, -, -, -, -, -, -, q0, q1, r0, -, -⟩ := d
 have r1 : U - U / yn1 * yn1 < 4294967296 := by
  have e := Int.emod_add_mul_ediv U yn1
  have b1 := Int.emod_lt_of_pos U (show 0 < yn1 by omega)
  rw [Int.mul_comm] at e
  omega
 exact ⟨U, e, f0, f1, f2, f3, q0, q1, Int.mul_nonneg q0 (by omega), by omega, r1, d', rfl⟩
theorem div_end {Y u un1 un0 b q1 q0 N y U : Int} {s : Nat} (f1 : DFin Y u un1 q1) (f0 : DFin Y U un0 q0) (hU : U = u * 4294967296 + un1 - q1 * Y) (hb : b = un1 * 4294967296 + un0)
 (hN : u * 18446744073709551616 + b = N * 2 ^ s) (hY : Y = y * 2 ^ s) (a7 : Y < 18446744073709551616) :
 ∃ R T : Int, IntKind.u64.wrap (IntKind.u64.wrap (IntKind.u64.wrap (U * 4294967296) + un0) - IntKind.u64.wrap (q0 * Y)) = R ∧ R / 2 ^ s = T ∧ 0 ≤ R ∧ R < 18446744073709551616 ∧ 0 ≤ q0 ∧ q0 < 4294967296 ∧ Hid ((q1 * 4294967296 + q0) * y + T = N ∧ 0 ≤ T ∧ T < y) := by
 subst hU
 have j := djoin f1 f0 hb hN hY
 obtain ⟨g0, g1, g2, g3⟩ := f0
 exact ⟨_, _, dwrap rfl g2 (by omega), rfl, g2, by omega, g0, g1, j⟩
def RetQR (N y : Int) (w : World) (e : Ending) (w' : World) : Prop :=
 ∃ q r : Int, e = .returned (.tuple #[.int .u64 q, .int .u64 r]) ∧ q * y + r = N ∧ 0 ≤ r ∧ r < y ∧ 0 ≤ q ∧ q < 18446744073709551616 ∧ ∃ n, w' = w.drewN n
set_option maxHeartbeats 4000000 in
theorem div64_pos (h l y : Int) (h0 : 1 ≤ h) (h1 : h < y) (l0 : 0 ≤ l) (l1 : l < 18446744073709551616) (y1 : y < 18446744073709551616) (w : World) :
 Calls Tryz.prog 126 #[.int .u64 h, .int .u64 l, .int .u64 y] w (RetQR (h * 18446744073709551616 + l) y w) := by
 go_enter Tryz.func126, Tryz.ntmps126
 go_wp2_with (go_at_call 129; refine (lead64 y (by omega) y1 _).mono ?_; rintro e w' ⟨s, rfl, hs, HS, rfl⟩; obtain ⟨Y, yn1, yn0, u, b, un1, un0, eY, e1, e2, e3, e4, e5, e6, a1, a2, a3, a4, a5, a6, a7, a8, a9, a10, a11, a12, a13, q0, q1, r2, r0, r1, hd, HN⟩ := div_start h l y s hs (by omega) h1 l0 l1 HS.out)
 have hY0 := Lib.hid hd.1
 go_loop [15, 16] (fun v t => ∃ q r : Int, v = .int .u64 q ∧ t = .int .u64 r ∧ 0 ≤ q ∧ q ≤ 4294967297 ∧ 0 ≤ r ∧ r < 4294967296 ∧ DInv Y yn1 yn0 u un1 q r) (fun v _ => (intOf v).toNat)
 case atStart => exact ⟨_, _, rfl, rfl, q0, q1, by omega, r1, hd⟩
 case round =>
  clear q0 q1 r0 r1 r2 hd
  obtain ⟨q, r, rfl, rfl, q0, q1, r0, r1, hd⟩ := hrel
  by_cases hc : 4294967296 ≤ q ∨ 4294967296 * r + un1 < q * yn0
  ·obtain ⟨g1, g2⟩ := dstep hd hc
   by_cases hr : 4294967296 ≤ r + yn1
   ·have f1 := dbreak g2 (by omega) hr
    by_cases hq : 4294967296 ≤ q
    ·clear hc
     obtain ⟨U, eU, c0, c1, U0, U1, q0, q1, r2, r0, r1, hd, HU⟩ := div_mid f1 hY0.out a1 a2 a3 a4 a7 a12 a13
     go_wp2
     go_loop [18, 16] (fun v t => ∃ q r : Int, v = .int .u64 q ∧ t = .int .u64 r ∧ 0 ≤ q ∧ q ≤ 4294967297 ∧ 0 ≤ r ∧ r < 4294967296 ∧ DInv Y yn1 yn0 U un0 q r) (fun v _ => (intOf v).toNat)
     case atStart => exact ⟨_, _, rfl, rfl, q0, q1, by omega, r1, hd⟩
     case round =>
      clear q0 q1 r0 r1 r2 hd
      obtain ⟨t, r, rfl, rfl, q0, q1, r0, r1, hd⟩ := hrel
      by_cases hc : 4294967296 ≤ t ∨ 4294967296 * r + un0 < t * yn0
      ·obtain ⟨g1, g2⟩ := dstep hd hc
       by_cases hr : 4294967296 ≤ r + yn1
       ·by_cases hq : 4294967296 ≤ t
        ·clear hc
         have f0 := dbreak g2 (by omega) hr
         obtain ⟨R, T, eR, eT, R0, R1, p0, p1, HE⟩ := div_end f1 f0 HU.out HN.out.1 HN.out.2.1 HN.out.2.2 a7
         go_wp2
         go_ret2
         exact ⟨(q - 1) * 4294967296 + (t - 1), T, rfl, HE.out.1, HE.out.2.1, HE.out.2.2, by omega, by omega, 0, rfl⟩
        ·obtain ⟨b0, b1⟩ := dbound hd (by omega)
         have ht : 4294967296 * r + un0 < t * yn0 := by omega
         clear hc
         have f0 := dbreak g2 (by omega) hr
         obtain ⟨R, T, eR, eT, R0, R1, p0, p1, HE⟩ := div_end f1 f0 HU.out HN.out.1 HN.out.2.1 HN.out.2.2 a7
         go_wp2
         go_ret2
         exact ⟨(q - 1) * 4294967296 + (t - 1), T, rfl, HE.out.1, HE.out.2.1, HE.out.2.2, by omega, by omega, 0, rfl⟩
       ·by_cases hq : 4294967296 ≤ t
        ·clear hc
         go_wp2
         go_round
         case rel => exact ⟨_, _, rfl, rfl, by omega, by omega, by omega, by omega, g2⟩
         case measure => simp [intOf]; omega
        ·obtain ⟨b0, b1⟩ := dbound hd (by omega)
         have ht : 4294967296 * r + un0 < t * yn0 := by omega
         clear hc
         go_wp2
         go_round
         case rel => exact ⟨_, _, rfl, rfl, by omega, by omega, by omega, by omega, g2⟩
         case measure => simp [intOf]; omega
      ·have hq : t < 4294967296 := by omega
       obtain ⟨b0, b1⟩ := dbound hd hq
       have ht : t * yn0 ≤ 4294967296 * r + un0 := by omega
       clear hc
       have f0 := dexit hd ht
       obtain ⟨R, T, eR, eT, R0, R1, p0, p1, HE⟩ := div_end f1 f0 HU.out HN.out.1 HN.out.2.1 HN.out.2.2 a7
       go_wp2
       go_ret2
       exact ⟨(q - 1) * 4294967296 + t, T, rfl, HE.out.1, HE.out.2.1, HE.out.2.2, by omega, by omega, 0, rfl⟩
    ·obtain ⟨b0, b1⟩ := dbound hd (by omega)
     have ht : 4294967296 * r + un1 < q * yn0 := by omega
     clear hc
     obtain ⟨U, eU, c0, c1, U0, U1, q0, q1, r2, r0, r1, hd, HU⟩ := div_mid f1 hY0.out a1 a2 a3 a4 a7 a12 a13
     go_wp2
     go_loop [18, 16] (fun v t => ∃ q r : Int, v = .int .u64 q ∧ t = .int .u64 r ∧ 0 ≤ q ∧ q ≤ 4294967297 ∧ 0 ≤ r ∧ r < 4294967296 ∧ DInv Y yn1 yn0 U un0 q r) (fun v _ => (intOf v).toNat)
     case atStart => exact ⟨_, _, rfl, rfl, q0, q1, by omega, r1, hd⟩
     case round =>
      clear q0 q1 r0 r1 r2 hd
      obtain ⟨t, r, rfl, rfl, q0, q1, r0, r1, hd⟩ := hrel
      by_cases hc : 4294967296 ≤ t ∨ 4294967296 * r + un0 < t * yn0
      ·obtain ⟨g1, g2⟩ := dstep hd hc
       by_cases hr : 4294967296 ≤ r + yn1
       ·by_cases hq : 4294967296 ≤ t
        ·clear hc
         have f0 := dbreak g2 (by omega) hr
         obtain ⟨R, T, eR, eT, R0, R1, p0, p1, HE⟩ := div_end f1 f0 HU.out HN.out.1 HN.out.2.1 HN.out.2.2 a7
         go_wp2
         go_ret2
         exact ⟨(q - 1) * 4294967296 + (t - 1), T, rfl, HE.out.1, HE.out.2.1, HE.out.2.2, by omega, by omega, 0, rfl⟩
        ·obtain ⟨b0, b1⟩ := dbound hd (by omega)
         have ht : 4294967296 * r + un0 < t * yn0 := by omega
         clear hc
         have f0 := dbreak g2 (by omega) hr
         obtain ⟨R, T, eR, eT, R0, R1, p0, p1, HE⟩ := div_end f1 f0 HU.out HN.out.1 HN.out.2.1 HN.out.2.2 a7
         go_wp2
         go_ret2
         exact ⟨(q - 1) * 4294967296 + (t - 1), T, rfl, HE.out.1, HE.out.2.1, HE.out.2.2, by omega, by omega, 0, rfl⟩
       ·by_cases hq : 4294967296 ≤ t
        ·clear hc
         go_wp2
         go_round
         case rel => exact ⟨_, _, rfl, rfl, by omega, by omega, by omega, by omega, g2⟩
         case measure => simp [intOf]; omega
        ·obtain ⟨b0, b1⟩ := dbound hd (by omega)
         have ht : 4294967296 * r + un0 < t * yn0 := by omega
         clear hc
         go_wp2
         go_round
         case rel => exact ⟨_, _, rfl, rfl, by omega, by omega, by omega, by omega, g2⟩
         case measure => simp [intOf]; omega
      ·have hq : t < 4294967296 := by omega
       obtain ⟨b0, b1⟩ := dbound hd hq
       have ht : t * yn0 ≤ 4294967296 * r + un0 := by omega
       clear hc
       have f0 := dexit hd ht
       obtain ⟨R, T, eR, eT, R0, R1, p0, p1, HE⟩ := div_end f1 f0 HU.out HN.out.1 HN.out.2.1 HN.out.2.2 a7
       go_wp2
       go_ret2
       exact ⟨(q - 1) * 4294967296 + t, T, rfl, HE.out.1, HE.out.2.1, HE.out.2.2, by omega, by omega, 0, rfl⟩
   ·by_cases hq : 4294967296 ≤ q
    ·clear hc
     go_wp2
     go_round
     case rel => exact ⟨_, _, rfl, rfl, by omega, by omega, by omega, by omega, g2⟩
     case measure => simp [intOf]; omega
    ·obtain ⟨b0, b1⟩ := dbound hd (by omega)
     have ht : 4294967296 * r + un1 < q * yn0 := by omega
     clear hc
     go_wp2
     go_round
     case rel => exact ⟨_, _, rfl, rfl, by omega, by omega, by omega, by omega, g2⟩
     case measure => simp [intOf]; omega
  ·have hq : q < 4294967296 := by omega
   obtain ⟨b0, b1⟩ := dbound hd hq
   have ht : q * yn0 ≤ 4294967296 * r + un1 := by omega
   have f1 := dexit hd ht
   clear hc
   obtain ⟨U, eU, c0, c1, U0, U1, q0, q1, r2, r0, r1, hd, HU⟩ := div_mid f1 hY0.out a1 a2 a3 a4 a7 a12 a13
   go_wp2
   go_loop [18, 16] (fun v t => ∃ q r : Int, v = .int .u64 q ∧ t = .int .u64 r ∧ 0 ≤ q ∧ q ≤ 4294967297 ∧ 0 ≤ r ∧ r < 4294967296 ∧ DInv Y yn1 yn0 U un0 q r) (fun v _ => (intOf v).toNat)
   case atStart => exact ⟨_, _, rfl, rfl, q0, q1, by omega, r1, hd⟩
   case round =>
    clear q0 q1 r0 r1 r2 hd
    obtain ⟨t, r, rfl, rfl, q0, q1, r0, r1, hd⟩ := hrel
    by_cases hc : 4294967296 ≤ t ∨ 4294967296 * r + un0 < t * yn0
    ·obtain ⟨g1, g2⟩ := dstep hd hc
     by_cases hr : 4294967296 ≤ r + yn1
     ·by_cases hq : 4294967296 ≤ t
      ·clear hc
       have f0 := dbreak g2 (by omega) hr
       obtain ⟨R, T, eR, eT, R0, R1, p0, p1, HE⟩ := div_end f1 f0 HU.out HN.out.1 HN.out.2.1 HN.out.2.2 a7
       go_wp2
       go_ret2
       exact ⟨q * 4294967296 + (t - 1), T, rfl, HE.out.1, HE.out.2.1, HE.out.2.2, by omega, by omega, 0, rfl⟩
      ·obtain ⟨b0, b1⟩ := dbound hd (by omega)
       have ht : 4294967296 * r + un0 < t * yn0 := by omega
       clear hc
       have f0 := dbreak g2 (by omega) hr
       obtain ⟨R, T, eR, eT, R0, R1, p0, p1, HE⟩ := div_end f1 f0 HU.out HN.out.1 HN.out.2.1 HN.out.2.2 a7
       go_wp2
       go_ret2
       exact ⟨q * 4294967296 + (t - 1), T, rfl, HE.out.1, HE.out.2.1, HE.out.2.2, by omega, by omega, 0, rfl⟩
     ·by_cases hq : 4294967296 ≤ t
      ·clear hc
       go_wp2
       go_round
       case rel => exact ⟨_, _, rfl, rfl, by omega, by omega, by omega, by omega, g2⟩
       case measure => simp [intOf]; omega
      ·obtain ⟨b0, b1⟩ := dbound hd (by omega)
       have ht : 4294967296 * r + un0 < t * yn0 := by omega
       clear hc
       go_wp2
       go_round
       case rel => exact ⟨_, _, rfl, rfl, by omega, by omega, by omega, by omega, g2⟩
       case measure => simp [intOf]; omega
    ·have hq : t < 4294967296 := by omega
     obtain ⟨b0, b1⟩ := dbound hd hq
     have ht : t * yn0 ≤ 4294967296 * r + un0 := by omega
     clear hc
     have f0 := dexit hd ht
     obtain ⟨R, T, eR, eT, R0, R1, p0, p1, HE⟩ := div_end f1 f0 HU.out HN.out.1 HN.out.2.1 HN.out.2.2 a7
     go_wp2
     go_ret2
     exact ⟨q * 4294967296 + t, T, rfl, HE.out.1, HE.out.2.1, HE.out.2.2, by omega, by omega, 0, rfl⟩
end Go.Proofs.YtdioaiepkhepaaaGreatDoor
