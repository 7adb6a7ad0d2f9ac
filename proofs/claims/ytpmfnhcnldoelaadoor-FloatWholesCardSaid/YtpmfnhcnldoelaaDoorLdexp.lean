/- math.Ldexp at a whole number n below 2^53 and a power of two: the float n 2^k, where that is normal. -/
import Derived.Test.YtpmfnhcnldoelaaDoorExt
import Derived.Test.YtpmfnhcnldoelaaDoorMathIeeeB
namespace Go.Proofs.YtpmfnhcnldoelaaDoor
open Go.RowKit
theorem i64_and2047 (n : Int) : bits .and .i64 n 2047 = n % 2048 := by
  have h127 : (BitVec.ofInt 64 2047).toNat = 2 ^ 11 - 1 := by decide
  have key : (BitVec.ofInt 64 n &&& BitVec.ofInt 64 2047).toNat = (n % ((2 ^ 64 : Nat) : Int)).toNat % 2 ^ 11 := by
    rw [BitVec.toNat_and, BitVec.toNat_ofInt, h127, Nat.and_two_pow_sub_one_eq_mod]
  show IntKind.i64.wrap ((BitVec.ofInt 64 n &&& BitVec.ofInt 64 2047).toNat : Nat) = n % 2048
  rw [key, IntKind.wrap_i64]
  omega
theorem wclear {X : Nat} (h : X < 9223372036854775808) : bits BinOp.andNot IntKind.u64 (X : Int) 9218868437227405312 = ((fm X : Nat) : Int) := by
  have h1 := u64_andNot_nat X 9218868437227405312 (by omega) (by omega)
  have h2 : X &&& (18446744073709551615 - 9218868437227405312) = fm X := by
    have e : (18446744073709551615 - 9218868437227405312 : Nat) = 2 ^ 63 ||| (2 ^ 52 - 1) := by decide
    rw [e, Nat.and_or_distrib_left, nat_bit, Nat.and_two_pow_sub_one_eq_mod]
    have : X / 2 ^ 63 % 2 = 0 := by omega
    rw [this, Nat.zero_mul, Nat.zero_or]
    rfl
  rw [h2] at h1
  exact h1
/-- the fields of n 2^k, n below 2^53, the number normal -/
theorem enc_fields {n : Nat} (hn : 0 < n) (hb : bl n ≤ 53) {k : Int} (h1 : -1022 ≤ k + bl n - 1) (h2 : k + bl n - 1 ≤ 1023) :
    ∃ m : Nat, m < 4503599627370496 ∧ n * 2 ^ (53 - bl n) = m + 4503599627370496 ∧ encF Ieee.double n k = (k + bl n + 1022).toNat * 4503599627370496 + m := by
  obtain ⟨d1, d2, d3, _, _⟩ := dblF
  obtain ⟨h5, h6⟩ := top_bits (n := 52) hn (by omega)
  have e := encF_normal Ieee.double hn (k := k) (by rw [d1]; omega) (by rw [d1, d2]; omega)
  rw [d1, d2, d3] at e
  rw [show 52 + 1 - bl n = 53 - bl n from by omega] at h5 h6 e
  refine ⟨n * 2 ^ (53 - bl n) - 4503599627370496, by omega, by omega, ?_⟩
  rw [e]
  have e2 : (k + (bl n : Int) - 1 - ((52 : Nat) : Int) - -1074).toNat + 1 = (k + bl n + 1022).toNat := by omega
  rw [← e2]
  generalize (k + (bl n : Int) - 1 - ((52 : Nat) : Int) - -1074).toNat = a
  rw [Nat.add_mul]
  omega
/-- A whole number below 2^53 as a float. -/
theorem nearest_int {n : Nat} (hn : 0 < n) (hb : bl n ≤ 53) : FloatKind.f64.nearest (n : Int) = encF Ieee.double n 0 := by
  obtain ⟨d1, d2, d3, d4, d5⟩ := dblF
  have hbl := bl_pos hn
  have hrep : encF Ieee.double n 0 < Ieee.double.infRung := by rw [d4]; exact encD_lt hn ⟨hb, by omega, by omega⟩
  have key := nearest_repr Ieee.double false hn 0 0 (by rw [d1]; omega) (by rw [d2]; omega) hrep
  have h0 : decide ((n : Int) < 0) = false := by simp
  show Ieee.double.nearest (decide ((n : Int) < 0)) ((n : Int).natAbs) 0 = _
  rw [h0]
  rw [Nat.pow_zero, Nat.mul_one] at key
  exact key
theorem nearest_zero : FloatKind.f64.nearest 0 = 0 := by decide +kernel
set_option maxHeartbeats 400000 in
theorem ldexp_any (n : Nat) (hn : 0 < n) (hb : bl n ≤ 53) (k : Int) (h1 : -1022 ≤ k + bl n - 1) (h2 : k + bl n - 1 ≤ 1023) (w : World) :
    Calls Tryd.prog 68 #[.float .f64 (encF Ieee.double n 0), .int .i64 k] w fun e w' => e = .returned (.float .f64 (encF Ieee.double n k)) ∧ w = w' := by
  have hbl := bl_pos hn
  obtain ⟨m, m1, m2, m3⟩ := enc_fields hn hb (k := 0) (by omega) (by omega)
  obtain ⟨m', m1', m2', m3'⟩ := enc_fields hn hb (k := k) h1 h2
  obtain rfl : m = m' := by omega
  have hX : encF Ieee.double n 0 < 9223372036854775808 := by have := encD_lt hn (k := 0) ⟨hb, by omega, by omega⟩; omega
  have hY : encF Ieee.double n k < 9218868437227405312 := encD_lt hn (k := k) ⟨hb, by omega, by omega⟩
  obtain ⟨a1, a2, _, _⟩ := parts_enc hn (k := 0) ⟨hb, by omega, by omega⟩ 0 (by omega)
  obtain ⟨b1, _, _, _⟩ := parts_enc hn (k := k) ⟨hb, by omega, by omega⟩ 0 (by omega)
  rw [Nat.zero_mul, Nat.zero_add] at a1 a2 b1
  have hfe : fe (encF Ieee.double n 0) = (0 + (bl n : Int) + 1022).toNat := by rw [m3]; unfold fe; omega
  have hfm : fm (encF Ieee.double n 0) = m := by rw [m3]; unfold fm; omega
  have o1 : (FloatKind.f64.format.order (encF Ieee.double n 0) (encF Ieee.double n 0) != some .eq) = false := by
    show (Ieee.double.order _ _ != some .eq) = false
    rw [order_self (by omega) a1]
    decide
  have e1 : bits BinOp.and IntKind.i64 (((encF Ieee.double n 0 : Nat) : Int) / 4503599627370496) 2047 = (((0 + (bl n : Int) + 1022).toNat : Nat) : Int) := by
    rw [i64_and2047, ← hfe]
    unfold fe
    omega
  have e2 := wclear hX
  rw [hfm] at e2
  have e3 : bits BinOp.or IntKind.u64 (m : Int) ((k + ((((0 + (bl n : Int) + 1022).toNat : Nat) : Int) - 1023) + 1023) * 4503599627370496) = ((encF Ieee.double n k : Nat) : Int) := by
    have c : (k + ((((0 + (bl n : Int) + 1022).toNat : Nat) : Int) - 1023) + 1023) * 4503599627370496 = (((k + bl n + 1022).toNat * 4503599627370496 : Nat) : Int) := by omega
    rw [c, u64_or_nat _ _ (by omega) (by omega), m3', Nat.or_comm, nat_join 52 _ m (Nat.mul_mod_left _ _) m1]
  refine ldexp_norm (encF Ieee.double n 0) (encF Ieee.double n k) ((0 + (bl n : Int) + 1022).toNat) ((k + bl n + 1022).toNat) m k w hX (by omega) ?_ o1 ?_ ?_ (by omega) e1 (by omega) (by omega) (by omega) (by omega) (by omega) e2 e3 (mul_one_fin (by omega) b1)
  · exact order_zero hX a1 (by omega)
  · exact order_max hX a1
  · exact order_norm hX a1 (by rw [hfe]; omega)
set_option maxHeartbeats 400000 in
theorem Ldexp_any (n : Nat) (hn : 0 < n) (hb : bl n ≤ 53) (k : Int) (h1 : -1022 ≤ k + bl n - 1) (h2 : k + bl n - 1 ≤ 1023) (w : World) :
    Calls Tryd.prog 46 #[.float .f64 (encF Ieee.double n 0), .int .i64 k] w fun e w' => e = .returned (.float .f64 (encF Ieee.double n k)) ∧ w = w' := by
  go_enter Tryd.func46, Tryd.ntmps46
  go_wp2_with (first | (go_at_call 68; refine (ldexp_any n hn hb k h1 h2 _).mono ?_; rintro e w' ⟨rfl, rfl⟩))
  go_ret
  exact ⟨by simp, rfl⟩
theorem Ldexp_zero (k : Int) (w : World) : Calls Tryd.prog 46 #[.float .f64 0, .int .i64 k] w fun e w' => e = .returned (.float .f64 0) ∧ w = w' := by
  go_enter Tryd.func46, Tryd.ntmps46
  go_wp2_with (first | (go_at_call 68; refine (ldexp_zero k _).mono ?_; rintro e w' ⟨rfl, rfl⟩))
  go_ret
  exact ⟨by simp, rfl⟩
end Go.Proofs.YtpmfnhcnldoelaaDoor
