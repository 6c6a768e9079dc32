/- The contracts of package wide and of its reference, in the evaluator's form. No condition but the words' own range. -/
import Derived.Test.YtdioaiepkhepaaaGreatDoorEvB
import Derived.Test.YtdioaiepkhepaaaGreatDoorSqrt
import Derived.Test.YtdioaiepkhepaaaGreatDoorRefB
import Derived.Test.YtdioaiepkhepaaaGreatDoorWideC
namespace Go.Proofs.YtdioaiepkhepaaaGreatDoor
open Go.RowKit
theorem rMulSmall_fits (ah al A k : Int) (ha : IsU ah al A) (hk : IsW k) (hfit : A * k < 340282366920938463463374607431768211456) (w : World) :
 Calls Tryz.prog 105 #[.agg #[.int .u64 ah, .int .u64 al], .int .u64 k] w (RetUB (A * k) true w) := by
 refine (rMulSmall ah al A k ha hk w).mono ?_
 rintro e w' (⟨_, h⟩ | ⟨h, _⟩)
 ·exact h
 ·omega
theorem rMulSmall_overs (ah al A k : Int) (ha : IsU ah al A) (hk : IsW k) (hfit : 340282366920938463463374607431768211456 ≤ A * k) (w : World) :
 Calls Tryz.prog 105 #[.agg #[.int .u64 ah, .int .u64 al], .int .u64 k] w (RetUB 0 false w) := by
 refine (rMulSmall ah al A k ha hk w).mono ?_
 rintro e w' (⟨h, _⟩ | ⟨_, h⟩)
 ·omega
 ·exact h
def U (h l : Int) : Int := h * 18446744073709551616 + l
def hiW (X : Int) : Int := X / 18446744073709551616
def loW (X : Int) : Int := X % 18446744073709551616
def two128 : Int := 340282366920938463463374607431768211456
theorem isW {x : Int} (h0 : IntKind.u64.min ≤ x) (h1 : x ≤ IntKind.u64.max) : IsW x := by
 simp [IntKind.min, IntKind.max, IntKind.signed, IntKind.bits] at h0 h1
 exact ⟨h0, by omega⟩
theorem kW {x : Int} (h : IsW x) : inKind (.i .u64) (.int .u64 x) := ⟨x, rfl, by simp [IntKind.min, IntKind.signed]; exact h.1, by have := h.2; simp [IntKind.max, IntKind.signed, IntKind.bits]; omega⟩
theorem zero_W : IsW 0 := ⟨by decide, by decide⟩
theorem isU {h l : Int} (a : IsW h) (b : IsW l) : IsU h l (U h l) := ⟨a.1, a.2, b.1, b.2, rfl⟩
theorem IsU.hl {h l X : Int} (u : IsU h l X) : h = hiW X ∧ l = loW X := by
 obtain ⟨a, b, c, d, e⟩ := u
 unfold hiW loW
 omega
theorem hl_U {X : Int} (h0 : 0 ≤ X) (h1 : X < two128) : IsU (hiW X) (loW X) X := by
 unfold two128 at h1
 unfold hiW loW
 exact ⟨by omega, by omega, by omega, by omega, by omega⟩
theorem hl_W {X : Int} (h0 : 0 ≤ X) (h1 : X < two128) : IsW (hiW X) ∧ IsW (loW X) := ⟨(hl_U h0 h1).hi, (hl_U h0 h1).lo⟩
theorem U_hl (X : Int) : U (hiW X) (loW X) = X := by unfold U hiW loW; omega
theorem sum_of {P : Program} {I : World → Prop} {f : FuncId} {A : List PS} {R : RS} {F : List Value → List Value} (hc : ∀ args w, (callFunc f args).run P w = .ok (.enter f args) w)
 (h : ∀ vs, KindsL (kindsL A) vs → ∀ w, Calls P f (packL A vs).toArray w fun e w' => e = .returned (R.pack (F vs)) ∧ KindsL R.kinds (F vs) ∧ Below w.heap.size w w') (hA : (kindsL A).all isPl = true := by rfl) (hR : R.kinds.all isPl = true := by rfl) : SumOK P I ⟨f, F, A, R⟩ :=
 .of_plain hA hR fun vs hk w _ => .inl ⟨hc _ _, (h vs hk w).mono fun _ _ ⟨a, b, c⟩ => ⟨_, a, rfl, b, c⟩⟩
def A_wide_Of : List PS := [.c (.i .u64)]
def R_wide_Of : RS := .one (.agg [.i .u64, .i .u64])
def F_wide_Of (x : Int) : Int × Int := (0, x)
def L_wide_Of : List Value → List Value
 | [.int _ x] => [.int .u64 (F_wide_Of x).1, .int .u64 (F_wide_Of x).2]
 | _ => []
def S_wide_Of : Sum := ⟨109, L_wide_Of, A_wide_Of, R_wide_Of⟩
theorem ok_wide_Of : SumOK Tryz.prog Inv S_wide_Of := sum_of Tryz.call109 fun vs hk w => by
 obtain ⟨_, _, rfl, ⟨x, rfl, x0, x1⟩, rfl⟩ := hk
 refine (wOf x w).mono ?_
 rintro e w' ⟨rfl, hb⟩
 exact ⟨rfl, ⟨_, _, rfl, kW zero_W, _, _, rfl, kW (isW x0 x1), rfl⟩, hb⟩
def A_wide_Mul : List PS := [.c (.i .u64), .c (.i .u64)]
def R_wide_Mul : RS := .one (.agg [.i .u64, .i .u64])
def F_wide_Mul (x y : Int) : Int × Int := (hiW (x * y), loW (x * y))
def L_wide_Mul : List Value → List Value
 | [.int _ x, .int _ y] => [.int .u64 (F_wide_Mul x y).1, .int .u64 (F_wide_Mul x y).2]
 | _ => []
def S_wide_Mul : Sum := ⟨91, L_wide_Mul, A_wide_Mul, R_wide_Mul⟩
theorem ok_wide_Mul : SumOK Tryz.prog Inv S_wide_Mul := sum_of Tryz.call91 fun vs hk w => by
 obtain ⟨_, _, rfl, ⟨x, rfl, x0, x1⟩, _, _, rfl, ⟨y, rfl, y0, y1⟩, rfl⟩ := hk
 refine (wMul x y (isW x0 x1) (isW y0 y1) w).mono ?_
 rintro e w' ⟨h, l, rfl, hu, hb⟩
 have a := hu.hi
 have b := hu.lo
 obtain ⟨rfl, rfl⟩ := hu.hl
 exact ⟨rfl, ⟨_, _, rfl, kW a, _, _, rfl, kW b, rfl⟩, hb⟩
def add128 (X Y : Int) : Int × Int × Bool := if X + Y < two128 then (hiW (X + Y), loW (X + Y), true) else (0, 0, false)
def sub128 (X Y : Int) : Int × Int × Bool := if Y ≤ X then (hiW (X - Y), loW (X - Y), true) else (0, 0, false)
def mul128 (X k : Int) : Int × Int × Bool := if X * k < two128 then (hiW (X * k), loW (X * k), true) else (0, 0, false)
def out3 (r : Int × Int × Bool) : List Value := [.int .u64 r.1, .int .u64 r.2.1, .bool r.2.2]
theorem out3_kinds {r : Int × Int × Bool} (h : IsW r.1 ∧ IsW r.2.1) : KindsL [.i .u64, .i .u64, .b] (out3 r) := ⟨_, _, rfl, kW h.1, _, _, rfl, kW h.2, _, _, rfl, ⟨_, rfl⟩, rfl⟩
theorem ret3 {P : Program} {f : FuncId} {args : Array Value} {w : World} {X : Int} {r : Int × Int × Bool} {c : Prop} [Decidable c] (hr : r = if c then (hiW X, loW X, true) else (0, 0, false)) (h1 : c → Calls P f args w (RetUB X true w)) (h2 : ¬ c → Calls P f args w (RetUB 0 false w)) :
 Calls P f args w fun e w' => e = .returned (.tuple #[.agg #[.int .u64 r.1, .int .u64 r.2.1], .bool r.2.2]) ∧ KindsL [.i .u64, .i .u64, .b] (out3 r) ∧ Below w.heap.size w w' := by
 by_cases hc : c
 ·rw [if_pos hc] at hr
  subst hr
  refine (h1 hc).mono ?_
  rintro e w' ⟨h, l, rfl, hu, hb⟩
  have a := hu.hi
  have b := hu.lo
  obtain ⟨rfl, rfl⟩ := hu.hl
  exact ⟨rfl, out3_kinds ⟨a, b⟩, hb⟩
 ·rw [if_neg hc] at hr
  subst hr
  refine (h2 hc).mono ?_
  rintro e w' ⟨h, l, rfl, hu, hb⟩
  obtain ⟨rfl, rfl⟩ := hu.hl
  exact ⟨rfl, out3_kinds ⟨zero_W, zero_W⟩, hb⟩
def A_two : List PS := [.agg [.i .u64, .i .u64], .agg [.i .u64, .i .u64]]
def A_one : List PS := [.agg [.i .u64, .i .u64], .c (.i .u64)]
def R_three : RS := .tup [.agg [.i .u64, .i .u64], .c (.b)]
def F_wide_Add (a b c d : Int) : Int × Int × Bool := add128 (U a b) (U c d)
def L_wide_Add : List Value → List Value
 | [.int _ a, .int _ b, .int _ c, .int _ d] => out3 (F_wide_Add a b c d)
 | _ => []
def S_wide_Add : Sum := ⟨90, L_wide_Add, A_two, R_three⟩
theorem ok_wide_Add : SumOK Tryz.prog Inv S_wide_Add := sum_of Tryz.call90 fun vs hk w => by
 obtain ⟨_, _, rfl, ⟨a, rfl, a0, a1⟩, _, _, rfl, ⟨b, rfl, b0, b1⟩, _, _, rfl, ⟨c, rfl, c0, c1⟩, _, _, rfl, ⟨d, rfl, d0, d1⟩, rfl⟩ := hk
 have ha := isU (isW a0 a1) (isW b0 b1)
 have hb := isU (isW c0 c1) (isW d0 d1)
 exact ret3 (r := F_wide_Add a b c d) (X := U a b + U c d) rfl (fun h => wAdd_fit a b _ c d _ ha hb h w) (fun h => wAdd_over a b _ c d _ ha hb (Int.not_lt.1 h) w)
def F_wide_Sub (a b c d : Int) : Int × Int × Bool := sub128 (U a b) (U c d)
def L_wide_Sub : List Value → List Value
 | [.int _ a, .int _ b, .int _ c, .int _ d] => out3 (F_wide_Sub a b c d)
 | _ => []
def S_wide_Sub : Sum := ⟨114, L_wide_Sub, A_two, R_three⟩
theorem ok_wide_Sub : SumOK Tryz.prog Inv S_wide_Sub := sum_of Tryz.call114 fun vs hk w => by
 obtain ⟨_, _, rfl, ⟨a, rfl, a0, a1⟩, _, _, rfl, ⟨b, rfl, b0, b1⟩, _, _, rfl, ⟨c, rfl, c0, c1⟩, _, _, rfl, ⟨d, rfl, d0, d1⟩, rfl⟩ := hk
 have ha := isU (isW a0 a1) (isW b0 b1)
 have hb := isU (isW c0 c1) (isW d0 d1)
 exact ret3 (r := F_wide_Sub a b c d) (X := U a b - U c d) rfl (fun h => wSub_fit a b _ c d _ ha hb h w) (fun h => wSub_neg a b _ c d _ ha hb (Int.not_le.1 h) w)
def F_wide_MulSmall (a b k : Int) : Int × Int × Bool := mul128 (U a b) k
def L_wide_MulSmall : List Value → List Value
 | [.int _ a, .int _ b, .int _ k] => out3 (F_wide_MulSmall a b k)
 | _ => []
def S_wide_MulSmall : Sum := ⟨113, L_wide_MulSmall, A_one, R_three⟩
theorem ok_wide_MulSmall : SumOK Tryz.prog Inv S_wide_MulSmall := sum_of Tryz.call113 fun vs hk w => by
 obtain ⟨_, _, rfl, ⟨a, rfl, a0, a1⟩, _, _, rfl, ⟨b, rfl, b0, b1⟩, _, _, rfl, ⟨c, rfl, c0, c1⟩, rfl⟩ := hk
 have ha := isU (isW a0 a1) (isW b0 b1)
 exact ret3 (r := F_wide_MulSmall a b c) (X := U a b * c) rfl (fun h => wMulSmall_fit a b _ c ha (isW c0 c1) h w) (fun h => wMulSmall_over a b _ c ha (isW c0 c1) (Int.not_lt.1 h) w)
theorem wDivMod_z (ah al : Int) (w : World) :
 Calls Tryz.prog 112 #[.agg #[.int .u64 ah, .int .u64 al], .int .u64 0] w (RetV (.tuple #[.agg #[.int .u64 0, .int .u64 0], .int .u64 0, .bool false]) w) := by
 go_enter Tryz.func112, Tryz.ntmps112
 go_wp2
 go_returns
 exact ⟨rfl, by go_grown⟩
def R_DivMod : RS := .tup [.agg [.i .u64, .i .u64], .c (.i .u64), .c (.b)]
def F_wide_DivMod (a b d : Int) : Int × Int × Int × Bool := if d = 0 then (0, 0, 0, false) else (hiW (U a b / d), loW (U a b / d), U a b % d, true)
def L_wide_DivMod : List Value → List Value
 | [.int _ a, .int _ b, .int _ d] => [.int .u64 (F_wide_DivMod a b d).1, .int .u64 (F_wide_DivMod a b d).2.1, .int .u64 (F_wide_DivMod a b d).2.2.1, .bool (F_wide_DivMod a b d).2.2.2]
 | _ => []
def S_wide_DivMod : Sum := ⟨112, L_wide_DivMod, A_one, R_DivMod⟩
theorem ok_wide_DivMod : SumOK Tryz.prog Inv S_wide_DivMod := sum_of Tryz.call112 fun vs hk w => by
 obtain ⟨_, _, rfl, ⟨a, rfl, a0, a1⟩, _, _, rfl, ⟨b, rfl, b0, b1⟩, _, _, rfl, ⟨d, rfl, d0, d1⟩, rfl⟩ := hk
 have ha := isU (isW a0 a1) (isW b0 b1)
 have hd := isW d0 d1
 by_cases hz : d = 0
 ·subst hz
  refine (wDivMod_z a b w).mono ?_
  rintro e w' ⟨rfl, hb⟩
  have : F_wide_DivMod a b 0 = (0, 0, 0, false) := if_pos rfl
  exact ⟨by simp only [RS.pack, packL, PS.pack, L_wide_DivMod, this, R_DivMod]; rfl, by simp only [L_wide_DivMod, this]; exact ⟨_, _, rfl, kW zero_W, _, _, rfl, kW zero_W, _, _, rfl, kW zero_W, _, _, rfl, ⟨_, rfl⟩, rfl⟩, hb⟩
 ·have hd1 : 1 ≤ d := by have := hd.1; omega
  refine (wDivMod a b _ d ha hd1 hd.2 w).mono ?_
  rintro e w' ⟨h, l, r, q, rfl, hu, hq, r0, r1, hb⟩
  have hr : IsW r := ⟨r0, by have := hd.2; omega⟩
  have e1 : q = U a b / d ∧ r = U a b % d := by
   have h1 := Int.mul_ediv_add_emod (U a b) d
   have := Int.ediv_emod_unique (a := U a b) (b := d) (r := r) (q := q) (by omega)
   obtain ⟨p1, p2⟩ := this.2 ⟨by rw [Int.mul_comm d q]; omega, r0, r1⟩
   exact ⟨p1.symm, p2.symm⟩
  have q1 := hu.hi
  have q2 := hu.lo
  obtain ⟨rfl, rfl⟩ := hu.hl
  obtain ⟨rfl, rfl⟩ := e1
  have : F_wide_DivMod a b d = (hiW (U a b / d), loW (U a b / d), U a b % d, true) := if_neg hz
  exact ⟨by simp only [RS.pack, packL, PS.pack, L_wide_DivMod, this, R_DivMod]; rfl, by simp only [L_wide_DivMod, this]; exact ⟨_, _, rfl, kW q1, _, _, rfl, kW q2, _, _, rfl, kW hr, _, _, rfl, ⟨_, rfl⟩, rfl⟩, hb⟩
def isqN : Nat → Nat
 | 0 => 0
 | n + 1 => if (isqN n + 1) * (isqN n + 1) ≤ n + 1 then isqN n + 1 else isqN n
theorem isqN_spec : ∀ n, isqN n * isqN n ≤ n ∧ n < (isqN n + 1) * (isqN n + 1)
 | 0 => by simp [isqN]
 | n + 1 => by
  obtain ⟨h1, h2⟩ := isqN_spec n
  simp only [isqN]
  split
  ·rename_i h
   refine ⟨h, ?_⟩
   have : (isqN n + 1 + 1) * (isqN n + 1 + 1) = (isqN n + 1) * (isqN n + 1) + 2 * isqN n + 3 := by
    simp only [Nat.add_mul, Nat.mul_add]; omega
   omega
  ·rename_i h
   exact ⟨by omega, by omega⟩
theorem isq_ex (X : Int) : ∃ x : Int, 0 ≤ X → 0 ≤ x ∧ x * x ≤ X ∧ X < (x + 1) * (x + 1) := ⟨isqN X.toNat, fun h => by
 obtain ⟨n, rfl⟩ := Int.eq_ofNat_of_zero_le h
 obtain ⟨h1, h2⟩ := isqN_spec n
 simp only [Int.toNat_natCast]
 exact ⟨by omega, by exact_mod_cast h1, by exact_mod_cast h2⟩⟩
noncomputable def isq (X : Int) : Int := Classical.choose (isq_ex X)
theorem isq_spec {X : Int} (h : 0 ≤ X) : 0 ≤ isq X ∧ isq X * isq X ≤ X ∧ X < (isq X + 1) * (isq X + 1) := Classical.choose_spec (isq_ex X) h
theorem isq_eq {X x : Int} (h : 0 ≤ X) (x0 : 0 ≤ x) (h1 : x * x ≤ X) (h2 : X < (x + 1) * (x + 1)) : isq X = x := by
 obtain ⟨a, b, c⟩ := isq_spec h
 rcases Int.lt_trichotomy (isq X) x with hlt | he | hgt
 ·have : (isq X + 1) * (isq X + 1) ≤ x * x := Int.mul_le_mul (by omega) (by omega) (by omega) x0
  omega
 ·exact he
 ·have : (x + 1) * (x + 1) ≤ isq X * isq X := Int.mul_le_mul (by omega) (by omega) (by omega) a
  omega
def A_wide_Sqrt : List PS := [.agg [.i .u64, .i .u64]]
def R_wide_Sqrt : RS := .one (.c (.i .u64))
noncomputable def F_wide_Sqrt (a b : Int) : Int := isq (U a b)
noncomputable def L_wide_Sqrt : List Value → List Value
 | [.int _ a, .int _ b] => [.int .u64 (F_wide_Sqrt a b)]
 | _ => []
noncomputable def S_wide_Sqrt : Sum := ⟨110, L_wide_Sqrt, A_wide_Sqrt, R_wide_Sqrt⟩
theorem ok_wide_Sqrt : SumOK Tryz.prog Inv S_wide_Sqrt := sum_of Tryz.call110 fun vs hk w => by
 obtain ⟨_, _, rfl, ⟨a, rfl, a0, a1⟩, _, _, rfl, ⟨b, rfl, b0, b1⟩, rfl⟩ := hk
 have ha := isU (isW a0 a1) (isW b0 b1)
 refine (wSqrt a b _ ha w).mono ?_
 rintro e w' ⟨x, rfl, hx, h1, h2, hb⟩
 have e1 : F_wide_Sqrt a b = x := isq_eq ha.nn hx.1 h1 h2
 subst e1
 exact ⟨rfl, ⟨_, _, rfl, kW hx, rfl⟩, hb⟩
theorem cmpI_in (x y : Int) : inKind (.i .i64) (.int .i64 (cmpI x y)) := by
 have h : -1 ≤ cmpI x y ∧ cmpI x y ≤ 1 := by
  unfold cmpI
  split
  ·omega
  ·split <;> omega
 have a : IntKind.i64.min ≤ -1 := by decide
 have b : 1 ≤ IntKind.i64.max := by decide
 exact ⟨_, rfl, by omega, by omega⟩
def R_Compare : RS := .one (.c (.i .i64))
def F_wide_Compare (a b c d : Int) : Int := cmpI (U a b) (U c d)
def L_wide_Compare : List Value → List Value
 | [.int _ a, .int _ b, .int _ c, .int _ d] => [.int .i64 (F_wide_Compare a b c d)]
 | _ => []
def S_wide_Compare : Sum := ⟨116, L_wide_Compare, A_two, R_Compare⟩
theorem ok_wide_Compare : SumOK Tryz.prog Inv S_wide_Compare := sum_of Tryz.call116 fun vs hk w => by
 obtain ⟨_, _, rfl, ⟨a, rfl, a0, a1⟩, _, _, rfl, ⟨b, rfl, b0, b1⟩, _, _, rfl, ⟨c, rfl, c0, c1⟩, _, _, rfl, ⟨d, rfl, d0, d1⟩, rfl⟩ := hk
 have ha := isU (isW a0 a1) (isW b0 b1)
 have hb := isU (isW c0 c1) (isW d0 d1)
 refine (wCompare a b _ c d _ ha hb w).mono ?_
 rintro e w' ⟨rfl, hb⟩
 exact ⟨rfl, ⟨_, _, rfl, cmpI_in _ _, rfl⟩, hb⟩
def F_r1_Mul (x y : Int) : Int × Int := (hiW (x * y), loW (x * y))
def L_r1_Mul : List Value → List Value
 | [.int _ x, .int _ y] => [.int .u64 (F_r1_Mul x y).1, .int .u64 (F_r1_Mul x y).2]
 | _ => []
def S_r1_Mul : Sum := ⟨84, L_r1_Mul, A_wide_Mul, R_wide_Mul⟩
theorem ok_r1_Mul : SumOK Tryz.prog Inv S_r1_Mul := sum_of Tryz.call84 fun vs hk w => by
 obtain ⟨_, _, rfl, ⟨x, rfl, x0, x1⟩, _, _, rfl, ⟨y, rfl, y0, y1⟩, rfl⟩ := hk
 refine (rMul x y (isW x0 x1) (isW y0 y1) w).mono ?_
 rintro e w' ⟨h, l, rfl, hu, hb⟩
 have a := hu.hi
 have b := hu.lo
 obtain ⟨rfl, rfl⟩ := hu.hl
 exact ⟨rfl, ⟨_, _, rfl, kW a, _, _, rfl, kW b, rfl⟩, hb⟩
def F_r1_Add (a b c d : Int) : Int × Int × Bool := add128 (U a b) (U c d)
def L_r1_Add : List Value → List Value
 | [.int _ a, .int _ b, .int _ c, .int _ d] => out3 (F_r1_Add a b c d)
 | _ => []
def S_r1_Add : Sum := ⟨83, L_r1_Add, A_two, R_three⟩
theorem ok_r1_Add : SumOK Tryz.prog Inv S_r1_Add := sum_of Tryz.call83 fun vs hk w => by
 obtain ⟨_, _, rfl, ⟨a, rfl, a0, a1⟩, _, _, rfl, ⟨b, rfl, b0, b1⟩, _, _, rfl, ⟨c, rfl, c0, c1⟩, _, _, rfl, ⟨d, rfl, d0, d1⟩, rfl⟩ := hk
 have ha := isU (isW a0 a1) (isW b0 b1)
 have hb := isU (isW c0 c1) (isW d0 d1)
 exact ret3 (r := F_r1_Add a b c d) (X := U a b + U c d) rfl (fun h => rAdd_fit a b _ c d _ ha hb h w) (fun h => rAdd_over a b _ c d _ ha hb (Int.not_lt.1 h) w)
def F_r1_Sub (a b c d : Int) : Int × Int × Bool := sub128 (U a b) (U c d)
def L_r1_Sub : List Value → List Value
 | [.int _ a, .int _ b, .int _ c, .int _ d] => out3 (F_r1_Sub a b c d)
 | _ => []
def S_r1_Sub : Sum := ⟨99, L_r1_Sub, A_two, R_three⟩
theorem ok_r1_Sub : SumOK Tryz.prog Inv S_r1_Sub := sum_of Tryz.call99 fun vs hk w => by
 obtain ⟨_, _, rfl, ⟨a, rfl, a0, a1⟩, _, _, rfl, ⟨b, rfl, b0, b1⟩, _, _, rfl, ⟨c, rfl, c0, c1⟩, _, _, rfl, ⟨d, rfl, d0, d1⟩, rfl⟩ := hk
 have ha := isU (isW a0 a1) (isW b0 b1)
 have hb := isU (isW c0 c1) (isW d0 d1)
 exact ret3 (r := F_r1_Sub a b c d) (X := U a b - U c d) rfl (fun h => rSub_fit a b _ c d _ ha hb h w) (fun h => rSub_neg a b _ c d _ ha hb (Int.not_le.1 h) w)
def F_r1_Compare (a b c d : Int) : Int := cmpI (U a b) (U c d)
def L_r1_Compare : List Value → List Value
 | [.int _ a, .int _ b, .int _ c, .int _ d] => [.int .i64 (F_r1_Compare a b c d)]
 | _ => []
def S_r1_Compare : Sum := ⟨117, L_r1_Compare, A_two, R_Compare⟩
theorem ok_r1_Compare : SumOK Tryz.prog Inv S_r1_Compare := sum_of Tryz.call117 fun vs hk w => by
 obtain ⟨_, _, rfl, ⟨a, rfl, a0, a1⟩, _, _, rfl, ⟨b, rfl, b0, b1⟩, _, _, rfl, ⟨c, rfl, c0, c1⟩, _, _, rfl, ⟨d, rfl, d0, d1⟩, rfl⟩ := hk
 have ha := isU (isW a0 a1) (isW b0 b1)
 have hb := isU (isW c0 c1) (isW d0 d1)
 refine (rCompare a b _ c d _ ha hb w).mono ?_
 rintro e w' ⟨rfl, hb⟩
 exact ⟨rfl, ⟨_, _, rfl, cmpI_in _ _, rfl⟩, hb⟩
def F_r1_MulSmall (a b k : Int) : Int × Int × Bool := mul128 (U a b) k
def L_r1_MulSmall : List Value → List Value
 | [.int _ a, .int _ b, .int _ k] => out3 (F_r1_MulSmall a b k)
 | _ => []
def S_r1_MulSmall : Sum := ⟨105, L_r1_MulSmall, A_one, R_three⟩
theorem ok_r1_MulSmall : SumOK Tryz.prog Inv S_r1_MulSmall := sum_of Tryz.call105 fun vs hk w => by
 obtain ⟨_, _, rfl, ⟨a, rfl, a0, a1⟩, _, _, rfl, ⟨b, rfl, b0, b1⟩, _, _, rfl, ⟨c, rfl, c0, c1⟩, rfl⟩ := hk
 have ha := isU (isW a0 a1) (isW b0 b1)
 exact ret3 (r := F_r1_MulSmall a b c) (X := U a b * c) rfl (fun h => rMulSmall_fits a b _ c ha (isW c0 c1) h w) (fun h => rMulSmall_overs a b _ c ha (isW c0 c1) (Int.not_lt.1 h) w)
end Go.Proofs.YtdioaiepkhepaaaGreatDoor
