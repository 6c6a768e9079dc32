/- The statements of chapter 09, as plain laws. -/
import Derived.Test.YtfjhhadmncjdiaaGreatDoorPix
import Derived.Test.YtfjhhadmncjdiaaGreatDoorSm09b
namespace Go.Proofs.YtfjhhadmncjdiaaGreatDoor
open Go.RowKit

theorem pOpaque (c0 c1 c2 a f m : Int) : F_pixel_Opaque c0 c1 c2 a f m = decide ((m = 255 ∨ m = 65535) ∧ VP c0 c1 c2 a f m ∧ a = m) := by
  rw [F_pixel_Opaque_eq]
  simp only [pValid, bif_ite, beq_dec]
  by_cases hv : VP c0 c1 c2 a f m
  · by_cases h1 : m = 255
    · subst h1
      simp [hv]
    · by_cases h2 : m = 65535
      · subst h2
        simp [hv]
      · simp [h1, h2]
  · simp [hv]
theorem comps {o k m s0 s1 s2 a f d0 d1 d2 b g : Int} (m1 : Is16 m) (s : P16 s0 s1 s2 a f) (d : P16 d0 d1 d2 b g) : F_pixel_Composite o k m s0 s1 s2 a f d0 d1 d2 b g = F_ref06_Composite o k m s0 s1 s2 a f d0 d1 d2 b g := by
  rw [pComp m1 s d, rComp m1 s d]

/-! PixelIdentities -/
section
variable {o k m s0 s1 s2 a f d0 d1 d2 b g : Int} (hm : m = 255 ∨ m = 65535) (hk : 1 ≤ k ∧ k ≤ 12) (s : PV s0 s1 s2 a f m) (d : PV d0 d1 d2 b g m)
include hm hk d
theorem idNeutral (h : neutralO o) : F_pixel_Composite o k m 0 0 0 0 0 d0 d1 d2 b g = (d0, d1, d2, b, g, true) := by
  have m0 : 1 ≤ m := by omega
  have dp := d.p16 (show m ≤ 65535 by omega)
  have ho : 1 ≤ o ∧ o ≤ 12 := by unfold neutralO at h; omega
  have c (x : Int) (h1 : Is16 x) (h2 : x ≤ b) : CA x b := ⟨h1.1, h2, dp.a.2⟩
  rw [compV hm ho hk (PV.zero (by omega)) d]
  unfold compZ
  rw [neutral_c m0 h hk (c d0 dp.c0 d.u0), neutral_c m0 h hk (c d1 dp.c1 d.u1), neutral_c m0 h hk (c d2 dp.c2 d.u2), neutral_a m0 h, neutral_f m0 h]
include s
omit d in
theorem idFresh (h : freshO o) : F_pixel_Composite o k m s0 s1 s2 a f 0 0 0 0 0 = (s0, s1, s2, a, f, true) := by
  have m0 : 1 ≤ m := by omega
  have ho : 1 ≤ o ∧ o ≤ 12 := by unfold freshO at h; omega
  rw [compV hm ho hk s (PV.zero (by omega))]
  unfold compZ
  rw [fresh_c m0 h hk, fresh_c m0 h hk, fresh_c m0 h hk, fresh_a m0 h, fresh_f m0 h]
theorem idDst : F_pixel_Composite 3 k m s0 s1 s2 a f d0 d1 d2 b g = (d0, d1, d2, b, g, true) := by
  have m0 : 1 ≤ m := by omega
  have sp := s.p16 (show m ≤ 65535 by omega)
  have dp := d.p16 (show m ≤ 65535 by omega)
  have cs (x : Int) (h1 : Is16 x) (h2 : x ≤ a) : CA x a := ⟨h1.1, h2, sp.a.2⟩
  have cd (x : Int) (h1 : Is16 x) (h2 : x ≤ b) : CA x b := ⟨h1.1, h2, dp.a.2⟩
  rw [compV hm (by decide) hk s d]
  unfold compZ
  rw [dst_c m0 hk (cs s0 sp.c0 s.u0) (cd d0 dp.c0 d.u0), dst_c m0 hk (cs s1 sp.c1 s.u1) (cd d1 dp.c1 d.u1), dst_c m0 hk (cs s2 sp.c2 s.u2) (cd d2 dp.c2 d.u2), dst_a m0, dst_f]
omit hk in
theorem idSrc : F_pixel_Composite 2 1 m s0 s1 s2 a f d0 d1 d2 b g = (s0, s1, s2, a, f, true) := by
  have m0 : 1 ≤ m := by omega
  rw [compV hm (by decide) (by decide) s d]
  unfold compZ
  rw [src_c m0, src_c m0, src_c m0, src_a m0, src_f]
omit hk in
theorem overP : F_pixel_Composite 4 1 m s0 s1 s2 a f d0 d1 d2 b g = (ov s0 a d0 m, ov s1 a d1 m, ov s2 a d2 m, ov a a b m, ov f f g m, true) ∧ PV (ov s0 a d0 m) (ov s1 a d1 m) (ov s2 a d2 m) (ov a a b m) (ov f f g m) m := by
  have m0 : 1 ≤ m := by omega
  have hv := comp_valid (o := 4) (k := 1) hm (by decide) (by decide) s d
  rw [compV hm (by decide) (by decide) s d]
  unfold compZ
  rw [over_c m0, over_c m0, over_c m0, over_a m0, over_f m0] at *
  exact ⟨rfl, hv⟩
end

/-! PixelRejectsOneSample -/

/-! PixelOverIsAssociativeUpToRounding -/
end Go.Proofs.YtfjhhadmncjdiaaGreatDoor
