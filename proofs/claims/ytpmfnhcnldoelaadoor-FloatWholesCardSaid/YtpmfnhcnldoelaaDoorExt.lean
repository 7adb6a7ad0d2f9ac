/- The model's entries for math.Float64bits and its kin, at this program; contracts of math.Abs, IsNaN, IsInf, Inf, normalize, Ldexp at whole numbers. -/
import Derived.Test.YtpmfnhcnldoelaaDoorFlA
import Derived.Test.YtpmfnhcnldoelaaDoorMathIeee
import Derived.Laws.Cover2
import Derived.Laws.FloatArith
namespace Go.Proofs.YtpmfnhcnldoelaaDoor
open Go.RowKit
@[go_sem] theorem run_Float64bits (x : Nat) (w : World) : (callFunc 48 #[.float .f64 x]).run Tryd.prog w = .ok (.value (.int .u64 x)) w :=
  (run_callFunc_extern (e := Extern.MathFloatBits.float64bits) Tryd.func48 (by kernel_rfl) (by kernel_rfl) (by kernel_rfl) (by kernel_rfl) _ w).trans rfl
@[go_sem] theorem run_Float64frombits (x : Int) (w : World) : (callFunc 43 #[.int .u64 x]).run Tryd.prog w = .ok (.value (.float .f64 x.toNat)) w :=
  (run_callFunc_extern (e := Extern.MathFloatBits.float64frombits) Tryd.func43 (by kernel_rfl) (by kernel_rfl) (by kernel_rfl) (by kernel_rfl) _ w).trans rfl
@[go_sem] theorem run_Float32bits (x : Nat) (w : World) : (callFunc 42 #[.float .f32 x]).run Tryd.prog w = .ok (.value (.int .u32 x)) w :=
  (run_callFunc_extern (e := Extern.MathFloatBits.float32bits) Tryd.func42 (by kernel_rfl) (by kernel_rfl) (by kernel_rfl) (by kernel_rfl) _ w).trans rfl
@[go_sem] theorem run_Float32frombits (x : Int) (w : World) : (callFunc 50 #[.int .u32 x]).run Tryd.prog w = .ok (.value (.float .f32 x.toNat)) w :=
  (run_callFunc_extern (e := Extern.MathFloatBits.float32frombits) Tryd.func50 (by kernel_rfl) (by kernel_rfl) (by kernel_rfl) (by kernel_rfl) _ w).trans rfl

theorem wabs {X : Nat} (h : X < 9223372036854775808) : bits BinOp.andNot IntKind.u64 (X : Int) 9223372036854775808 = X := by
  have h1 := u64_andNot_nat X 9223372036854775808 (by omega) (by omega)
  have h2 : X &&& (18446744073709551615 - 9223372036854775808) = X := by
    have := Nat.and_two_pow_sub_one_eq_mod X 63
    rw [Nat.mod_eq_of_lt (by omega)] at this
    exact this
  rw [h2] at h1
  exact h1
theorem Abs_any (X : Nat) (h : X < 9223372036854775808) (w : World) :
    Calls Tryd.prog 75 #[.float .f64 X] w fun e w' => e = .returned (.float .f64 X) ∧ w = w' := by
  have e := wabs h
  go_enter Tryd.func75, Tryd.ntmps75
  go_wp2_with fail
  go_ret
  exact ⟨by simp, rfl⟩
theorem IsNaN_no (X : Nat) (h : (FloatKind.f64.format.order X X != some .eq) = false) (w : World) :
    Calls Tryd.prog 72 #[.float .f64 X] w fun e w' => e = .returned (.bool false) ∧ w = w' := by
  go_enter Tryd.func72, Tryd.ntmps72
  go_wp2_with fail
  go_ret
  exact ⟨by simp, rfl⟩
theorem IsInf_no (X : Nat) (hX : X < 9223372036854775808) (h : (FloatKind.f64.format.order X 9218868437227405311 == some .gt) = false) (w : World) :
    Calls Tryd.prog 71 #[.float .f64 X, .int .i64 0] w fun e w' => e = .returned (.bool false) ∧ w = w' := by
  go_enter Tryd.func71, Tryd.ntmps71
  go_wp2_with (first | (go_at_call 75; refine (Abs_any X hX _).mono ?_; rintro e w' ⟨rfl, rfl⟩))
  go_ret
  exact ⟨by simp, rfl⟩
theorem normalize_no (X : Nat) (hX : X < 9223372036854775808) (h : (FloatKind.f64.format.order X 4503599627370496 == some .lt) = false) (w : World) :
    Calls Tryd.prog 73 #[.float .f64 X] w fun e w' => e = .returned (.tuple #[.float .f64 X, .int .i64 0]) ∧ w = w' := by
  go_enter Tryd.func73, Tryd.ntmps73
  go_wp2_with (first | (go_at_call 75; refine (Abs_any X hX _).mono ?_; rintro e w' ⟨rfl, rfl⟩))
  go_ret2
  exact ⟨by simp, rfl⟩
theorem Inf_pos (w : World) : Calls Tryd.prog 47 #[.int .i64 1] w fun e w' => e = .returned (.float .f64 9218868437227405312) ∧ w = w' := by
  go_enter Tryd.func47, Tryd.ntmps47
  go_wp2_with fail
  go_ret
  exact ⟨by simp, rfl⟩
set_option maxHeartbeats 400000 in
theorem ldexp_zero (k : Int) (w : World) : Calls Tryd.prog 68 #[.float .f64 0, .int .i64 k] w fun e w' => e = .returned (.float .f64 0) ∧ w = w' := by
  have h : (FloatKind.f64.format.order 0 0 == some .eq) = true := by decide +kernel
  go_enter Tryd.func68, Tryd.ntmps68
  go_wp2_with fail
  go_ret
  exact ⟨by simp, rfl⟩
/-- ldexp of a normal float, the result normal as well: X and Y have one fraction, Y's exponent is k more. -/
theorem ldexp_norm (X Y f g m : Nat) (k : Int) (w : World) (hX : X < 9223372036854775808) (_hY : Y < 18446744073709551616)
    (o0 : (FloatKind.f64.format.order X 0 == some .eq) = false) (o1 : (FloatKind.f64.format.order X X != some .eq) = false) (o2 : (FloatKind.f64.format.order X 9218868437227405311 == some .gt) = false) (o3 : (FloatKind.f64.format.order X 4503599627370496 == some .lt) = false)
    (hf : f ≤ 2046) (e1 : bits BinOp.and IntKind.i64 ((X : Int) / 4503599627370496) 2047 = (f : Int)) (hk : -2000 ≤ k) (hk2 : k ≤ 2000) (hg : k + f = g) (hg1 : 1 ≤ g) (hg2 : g ≤ 2046)
    (e2 : bits BinOp.andNot IntKind.u64 (X : Int) 9218868437227405312 = (m : Int)) (e3 : bits BinOp.or IntKind.u64 (m : Int) ((k + ((f : Int) - 1023) + 1023) * 4503599627370496) = (Y : Int)) (e4 : FloatKind.f64.format.mul 4607182418800017408 Y = some Y) :
    Calls Tryd.prog 68 #[.float .f64 X, .int .i64 k] w fun e w' => e = .returned (.float .f64 Y) ∧ w = w' := by
  have hmul := fun w => run_float_arith (P := Tryd.prog) (w := w) .mul 65 .f64 4607182418800017408 Y Y e4
  clear e4
  go_enter Tryd.func68, Tryd.ntmps68
  go_wp2_with (first | (go_at_call 71; refine (IsInf_no X hX o2 _).mono ?_; rintro e w' ⟨rfl, rfl⟩) | (go_at_call 72; refine (IsNaN_no X o1 _).mono ?_; rintro e w' ⟨rfl, rfl⟩) | (go_at_call 73; refine (normalize_no X hX o3 _).mono ?_; rintro e w' ⟨rfl, rfl⟩))
  go_ret
  exact ⟨by simp, rfl⟩
end Go.Proofs.YtpmfnhcnldoelaaDoor
