/- Contracts of the document's answer on floats: pack, for every number. -/
import Derived.Test.YtpmfnhcnldoelaaDoorRe
import Derived.Test.YtpmfnhcnldoelaaDoorBack
namespace Go.Proofs.YtpmfnhcnldoelaaDoor
open Go.RowKit
def repDB (p : Nat) (k : Int) : Bool := p == 0 || (decide (bl p ≤ 53) && decide (-1074 ≤ k) && decide (k + bl p ≤ 1024))
theorem repDB_iff {p : Nat} {k : Int} : repDB p k = true ↔ p = 0 ∨ (bl p ≤ 53 ∧ -1074 ≤ k ∧ k + bl p ≤ 1024) := by
  unfold repDB
  simp [and_assoc]
theorem u64_join {a b n : Nat} (ha : a % 2 ^ n = 0) (hb : b < 2 ^ n) (ha2 : a < 18446744073709551616) (hb2 : b < 18446744073709551616) : bits BinOp.or IntKind.u64 (a : Int) (b : Int) = ((a + b : Nat) : Int) := by
  rw [u64_or_nat a b ha2 hb2, nat_join n a b ha hb]
theorem u64_mask {m n : Nat} (h : m < 18446744073709551616) (hn : n ≤ 60) : bits BinOp.and IntKind.u64 (m : Int) ((2 ^ n - 1 : Nat) : Int) = ((m % 2 ^ n : Nat) : Int) := by
  have h2 : (2 : Nat) ^ n ≤ 2 ^ 60 := Nat.pow_le_pow_right (by decide) hn
  rw [u64_and_nat m (2 ^ n - 1) h (by omega), Nat.and_two_pow_sub_one_eq_mod]
/-- the calls of pack -/
theorem pk_calls (v : Value) (n N : Nat) (w : World) (h : DN w v n N) (hn : n ≤ 1000) : PkC v w (bl N) (if N = 0 then 256 else tz N) (N / 2 ^ (if N = 0 then 256 else tz N)) (bl (N / 2 ^ (if N = 0 then 256 else tz N))) := by
  have ht : (if N = 0 then 256 else tz N) ≤ 32000 := by
    by_cases c : N = 0
    · rw [if_pos c]; omega
    · rw [if_neg c]
      have h1 := tz_lt_bl (Nat.pos_of_ne_zero c)
      have h2 := (bl_le_iff N (32 * n)).2 h.1
      omega
  refine ⟨fun w1 hb => DLen_any v n N w1 (h.below hb), fun w1 hb => DTrail_any v n N w1 (h.below hb), fun w1 hb => ?_, fun v' w1 h' => DLen_any v' _ _ w1 h'⟩
  generalize (if N = 0 then 256 else tz N) = t at *
  have k := Shift_any v n N (-(t : Int)) w1 (h.below hb) (by omega) (by omega) (by omega)
  have e : shI N (-(t : Int)) = N / 2 ^ t := by
    unfold shI
    by_cases c : t = 0
    · subst c
      rw [if_pos (by omega)]
      simp
    · rw [if_neg (by omega), show (- -(t : Int)).toNat = t from by omega]
  rw [e] at k
  exact k
theorem pk_nat {q : Nat} (h : q < 18446744073709551616) : PkN q := ⟨fun v' w hv => by
  have k := DNat_any v' _ q w hv
  have h256 : q < 2 ^ 256 := Nat.lt_trans h (by decide)
  have l0 : lm q 0 = q := by rw [lm0]; exact Nat.mod_eq_of_lt h
  have l1 : lm q 1 = 0 := by unfold lm; rw [Nat.div_eq_of_lt h]
  have l2 : lm q 2 = 0 := by unfold lm; rw [Nat.div_eq_of_lt (Nat.lt_trans h (by decide))]
  have l3 : lm q 3 = 0 := by unfold lm; rw [Nat.div_eq_of_lt (Nat.lt_trans h (by decide))]
  rw [if_pos h256, decide_eq_true h256, l0, l1, l2, l3] at k
  exact k⟩
/-- the word of a float that is below the normal ones -/
theorem pk_sub_D {q : Nat} {k : Int} (hq : 0 < q) (h1 : bl q ≤ 53) (h2 : k + (bl q : Int) - 1 < -1022) (h3 : -1074 ≤ k) (S : Nat) (hS : S = 0 ∨ S = 9223372036854775808) :
    ∃ y j : Nat, k - (-1074) = (j : Int) ∧ j ≤ 60 ∧ IntKind.u64.wrap ((q : Int) * 2 ^ j) = (y : Int) ∧ bits BinOp.or IntKind.u64 (S : Int) (y : Int) = ((S + encF Ieee.double q k : Nat) : Int) := by
  obtain ⟨d1, d2, d3, _, _⟩ := dblF
  have hb := bl_pos hq
  have e := encF_sub Ieee.double hq (k := k) (by rw [d1, d2]; omega)
  rw [d2] at e
  obtain ⟨j, hj⟩ : ∃ j : Nat, j = (k - (-1074)).toNat := ⟨_, rfl⟩
  have hjj : k - (-1074) = (j : Int) := by omega
  have hy : q * 2 ^ j < 4503599627370496 := by
    have h := (bl_le_iff (q * 2 ^ j) 52).1 (by rw [bl_mul_two_pow hq]; omega)
    exact h
  refine ⟨q * 2 ^ j, j, hjj, by omega, ?_, ?_⟩
  · rw [show ((q : Int) * 2 ^ j) = ((q * 2 ^ j : Nat) : Int) from by simp]
    exact wrap64u (by omega)
  · rw [e, show (k - -1074).toNat = j from by omega]
    generalize q * 2 ^ j = y at *
    exact u64_join (n := 52) (by rcases hS with h | h <;> subst h <;> decide) hy (by rcases hS with h | h <;> omega) (by omega)
/-- the word of a normal float -/
theorem pk_norm_D {q : Nat} {k : Int} (hq : 0 < q) (h1 : bl q ≤ 53) (h2 : -1022 ≤ k + (bl q : Int) - 1) (h4 : k + (bl q : Int) - 1 ≤ 1023) (S : Nat) (hS : S = 0 ∨ S = 9223372036854775808) :
    ∃ y m E x n j : Nat, 53 - (bl q : Int) = (j : Int) ∧ j ≤ 60 ∧ IntKind.u64.wrap ((q : Int) * 2 ^ j) = (m : Int) ∧ k + (bl q : Int) - 1 + 1023 = (E : Int) ∧ E ≤ 3000 ∧ IntKind.u64.wrap ((E : Int) * 4503599627370496) = (x : Int) ∧
      bits BinOp.or IntKind.u64 (S : Int) (x : Int) = (y : Int) ∧ bits BinOp.and IntKind.u64 (m : Int) 4503599627370495 = (n : Int) ∧ bits BinOp.or IntKind.u64 (y : Int) (n : Int) = ((S + encF Ieee.double q k : Nat) : Int) := by
  obtain ⟨d1, d2, d3, _, _⟩ := dblF
  have hb := bl_pos hq
  have e := encF_normal Ieee.double hq (k := k) (by rw [d1]; omega) (by rw [d1, d2]; omega)
  rw [d1, d2, d3] at e
  obtain ⟨h5, h6⟩ := top_bits (n := 52) hq (by omega)
  rw [show 52 + 1 - bl q = 53 - bl q from by omega] at e h5 h6
  obtain ⟨E, hE⟩ : ∃ E : Nat, E = (k + (bl q : Int) - 1 + 1023).toNat := ⟨_, rfl⟩
  have hEE : k + (bl q : Int) - 1 + 1023 = (E : Int) := by omega
  have hg : (k + (bl q : Int) - 1 - ((52 : Nat) : Int) - -1074).toNat + 1 = E := by omega
  have hE2 : E ≤ 2046 := by omega
  have hE1 : 1 ≤ E := by omega
  generalize (k + (bl q : Int) - 1 - ((52 : Nat) : Int) - -1074).toNat = G at e hg
  refine ⟨S + E * 4503599627370496, q * 2 ^ (53 - bl q), E, E * 4503599627370496, q * 2 ^ (53 - bl q) % 4503599627370496, 53 - bl q, by omega, by omega, ?_, hEE, by omega, ?_, ?_, ?_, ?_⟩
  · rw [show ((q : Int) * 2 ^ (53 - bl q)) = ((q * 2 ^ (53 - bl q) : Nat) : Int) from by simp]
    exact wrap64u (by omega)
  · rw [show ((E : Int) * 4503599627370496) = ((E * 4503599627370496 : Nat) : Int) from by omega]
    exact wrap64u (by omega)
  · exact u64_join (n := 63) (by rcases hS with h | h <;> subst h <;> decide) (by omega) (by rcases hS with h | h <;> omega) (by omega)
  · exact u64_mask (n := 52) (by omega) (by decide)
  · rw [e]
    generalize q * 2 ^ (53 - bl q) = m at *
    have hz : S + G * 4503599627370496 + m = S + E * 4503599627370496 + m % 4503599627370496 := by omega
    rw [← Nat.add_assoc, hz]
    refine u64_join (n := 52) ?_ (Nat.mod_lt _ (by decide)) (by rcases hS with h | h <;> omega) (by omega)
    rcases hS with h | h <;> subst h <;> omega
/-- **pack** at this format. -/
theorem Pack_D (neg : Bool) (v : Value) (n N : Nat) (e : Int) (w : World) (h : DN w v n N) (hn : n ≤ 9) (he1 : -3000 ≤ e) (he2 : e ≤ 3000) :
    Calls Tryd.prog 57 #[.bool neg, v, .int .i64 e, .int .i64 53, .int .i64 11] w fun e' w' => e' = .returned (.tuple #[.int .u64 (if repDB (N / 2 ^ tz N) (e + tz N) = true then (if neg = true then 9223372036854775808 else 0) + encF Ieee.double (N / 2 ^ tz N) (e + tz N) else 0 : Nat), .bool (repDB (N / 2 ^ tz N) (e + tz N))]) ∧ Below w.heap.size w w' := by
  have C := pk_calls v n N w h (by omega)
  by_cases c : N = 0
  · subst c
    have hr : repDB (0 / 2 ^ tz 0) (e + tz 0) = true := by rw [Nat.zero_div]; rfl
    rw [hr, if_pos rfl, Nat.zero_div, encF_zero, Nat.add_zero]
    rw [bl_zero] at C
    cases neg with
    | true => exact Pack_zero_Dn v e _ _ _ w (Lib.hid C)
    | false => exact Pack_zero_Dp v e _ _ _ w (Lib.hid C)
  · rw [if_neg c] at C
    have hN : 0 < N := Nat.pos_of_ne_zero c
    obtain ⟨hq, hm, hbl⟩ := odd_split hN
    have hblN := (bl_le_iff N (32 * n)).2 h.1
    have hbq := bl_pos hq
    have hL0 : (((bl N : Nat) : Int) == 0) = false := by simp; omega
    generalize N / 2 ^ tz N = q at *
    generalize ht : tz N = t at *
    generalize bl N = L at *
    obtain ⟨k, hk⟩ : ∃ k, k = e + (t : Int) := ⟨_, rfl⟩
    rw [← hk]
    have CH := Lib.hid C
    by_cases c1 : bl q ≤ 53
    · by_cases c2 : k + (bl q : Int) - 1 ≤ 1023
      · by_cases c3 : -1074 ≤ k
        · have hr : repDB q k = true := repDB_iff.2 (.inr ⟨c1, c3, by omega⟩)
          rw [hr, if_pos rfl]
          have hq64 : q < 18446744073709551616 := Nat.lt_trans ((bl_le_iff q 53).1 c1) (by decide)
          have NH := Lib.hid (pk_nat hq64)
          by_cases c4 : k + (bl q : Int) - 1 < -1022
          · cases neg with
            | true =>
              obtain ⟨y, j, e1, e2, e3, e4⟩ := pk_sub_D hq c1 c4 c3 9223372036854775808 (.inr rfl)
              exact Pack_sub_Dn v e k L t q (bl q) w hL0 (by omega) (by omega) (by omega) (by omega) hk.symm (by omega) (by omega) CH NH (by omega) c4 c3 _ y j e1 e2 e3 e4
            | false =>
              obtain ⟨y, j, e1, e2, e3, e4⟩ := pk_sub_D hq c1 c4 c3 0 (.inl rfl)
              exact Pack_sub_Dp v e k L t q (bl q) w hL0 (by omega) (by omega) (by omega) (by omega) hk.symm (by omega) (by omega) CH NH (by omega) c4 c3 _ y j e1 e2 e3 e4
          · cases neg with
            | true =>
              obtain ⟨y, m, E, x, n, j, e1, e2, e3, e4, e5, e6, e7, e8, e9⟩ := pk_norm_D hq c1 (by omega) c2 9223372036854775808 (.inr rfl)
              exact Pack_norm_Dn v e k L t q (bl q) w hL0 (by omega) (by omega) (by omega) (by omega) hk.symm (by omega) (by omega) CH NH (by omega) (by omega) c3 c2 _ y m E x n j e1 e2 e3 e4 e5 e6 e7 e8 e9
            | false =>
              obtain ⟨y, m, E, x, n, j, e1, e2, e3, e4, e5, e6, e7, e8, e9⟩ := pk_norm_D hq c1 (by omega) c2 0 (.inl rfl)
              exact Pack_norm_Dp v e k L t q (bl q) w hL0 (by omega) (by omega) (by omega) (by omega) hk.symm (by omega) (by omega) CH NH (by omega) (by omega) c3 c2 _ y m E x n j e1 e2 e3 e4 e5 e6 e7 e8 e9
        · have hr : repDB q k = false := by
            cases hx : repDB q k with
            | false => rfl
            | true => rcases repDB_iff.1 hx with h | h <;> omega
          rw [hr, if_neg (by decide)]
          cases neg with
          | true => exact Pack_noc_Dn v e k L t q (bl q) w hL0 (by omega) (by omega) (by omega) (by omega) hk.symm (by omega) (by omega) CH (by omega) c2 (by omega)
          | false => exact Pack_noc_Dp v e k L t q (bl q) w hL0 (by omega) (by omega) (by omega) (by omega) hk.symm (by omega) (by omega) CH (by omega) c2 (by omega)
      · have hr : repDB q k = false := by
          cases hx : repDB q k with
          | false => rfl
          | true => rcases repDB_iff.1 hx with h | h <;> omega
        rw [hr, if_neg (by decide)]
        cases neg with
        | true => exact Pack_nob_Dn v e k L t q (bl q) w hL0 (by omega) (by omega) (by omega) (by omega) hk.symm (by omega) (by omega) CH (by omega) (by omega)
        | false => exact Pack_nob_Dp v e k L t q (bl q) w hL0 (by omega) (by omega) (by omega) (by omega) hk.symm (by omega) (by omega) CH (by omega) (by omega)
    · have hr : repDB q k = false := by
        cases hx : repDB q k with
        | false => rfl
        | true => rcases repDB_iff.1 hx with h | h <;> omega
      rw [hr, if_neg (by decide)]
      cases neg with
      | true => exact Pack_noa_Dn v e k L t q (bl q) w hL0 (by omega) (by omega) (by omega) (by omega) hk.symm (by omega) (by omega) CH (by omega)
      | false => exact Pack_noa_Dp v e k L t q (bl q) w hL0 (by omega) (by omega) (by omega) (by omega) hk.symm (by omega) (by omega) CH (by omega)
/-- the word of a float that is below the normal ones -/
theorem pk_sub_S {q : Nat} {k : Int} (hq : 0 < q) (h1 : bl q ≤ 24) (h2 : k + (bl q : Int) - 1 < -126) (h3 : -149 ≤ k) (S : Nat) (hS : S = 0 ∨ S = 2147483648) :
    ∃ y j : Nat, k - (-149) = (j : Int) ∧ j ≤ 60 ∧ IntKind.u64.wrap ((q : Int) * 2 ^ j) = (y : Int) ∧ bits BinOp.or IntKind.u64 (S : Int) (y : Int) = ((S + encF Ieee.single q k : Nat) : Int) := by
  obtain ⟨d1, d2, d3, _, _⟩ := sglF
  have hb := bl_pos hq
  have e := encF_sub Ieee.single hq (k := k) (by rw [d1, d2]; omega)
  rw [d2] at e
  obtain ⟨j, hj⟩ : ∃ j : Nat, j = (k - (-149)).toNat := ⟨_, rfl⟩
  have hjj : k - (-149) = (j : Int) := by omega
  have hy : q * 2 ^ j < 8388608 := by
    have h := (bl_le_iff (q * 2 ^ j) 23).1 (by rw [bl_mul_two_pow hq]; omega)
    exact h
  refine ⟨q * 2 ^ j, j, hjj, by omega, ?_, ?_⟩
  · rw [show ((q : Int) * 2 ^ j) = ((q * 2 ^ j : Nat) : Int) from by simp]
    exact wrap64u (by omega)
  · rw [e, show (k - -149).toNat = j from by omega]
    generalize q * 2 ^ j = y at *
    exact u64_join (n := 23) (by rcases hS with h | h <;> subst h <;> decide) hy (by rcases hS with h | h <;> omega) (by omega)
/-- the word of a normal float -/
theorem pk_norm_S {q : Nat} {k : Int} (hq : 0 < q) (h1 : bl q ≤ 24) (h2 : -126 ≤ k + (bl q : Int) - 1) (h4 : k + (bl q : Int) - 1 ≤ 127) (S : Nat) (hS : S = 0 ∨ S = 2147483648) :
    ∃ y m E x n j : Nat, 24 - (bl q : Int) = (j : Int) ∧ j ≤ 60 ∧ IntKind.u64.wrap ((q : Int) * 2 ^ j) = (m : Int) ∧ k + (bl q : Int) - 1 + 127 = (E : Int) ∧ E ≤ 3000 ∧ IntKind.u64.wrap ((E : Int) * 8388608) = (x : Int) ∧
      bits BinOp.or IntKind.u64 (S : Int) (x : Int) = (y : Int) ∧ bits BinOp.and IntKind.u64 (m : Int) 8388607 = (n : Int) ∧ bits BinOp.or IntKind.u64 (y : Int) (n : Int) = ((S + encF Ieee.single q k : Nat) : Int) := by
  obtain ⟨d1, d2, d3, _, _⟩ := sglF
  have hb := bl_pos hq
  have e := encF_normal Ieee.single hq (k := k) (by rw [d1]; omega) (by rw [d1, d2]; omega)
  rw [d1, d2, d3] at e
  obtain ⟨h5, h6⟩ := top_bits (n := 23) hq (by omega)
  rw [show 23 + 1 - bl q = 24 - bl q from by omega] at e h5 h6
  obtain ⟨E, hE⟩ : ∃ E : Nat, E = (k + (bl q : Int) - 1 + 127).toNat := ⟨_, rfl⟩
  have hEE : k + (bl q : Int) - 1 + 127 = (E : Int) := by omega
  have hg : (k + (bl q : Int) - 1 - ((23 : Nat) : Int) - -149).toNat + 1 = E := by omega
  have hE2 : E ≤ 254 := by omega
  have hE1 : 1 ≤ E := by omega
  generalize (k + (bl q : Int) - 1 - ((23 : Nat) : Int) - -149).toNat = G at e hg
  refine ⟨S + E * 8388608, q * 2 ^ (24 - bl q), E, E * 8388608, q * 2 ^ (24 - bl q) % 8388608, 24 - bl q, by omega, by omega, ?_, hEE, by omega, ?_, ?_, ?_, ?_⟩
  · rw [show ((q : Int) * 2 ^ (24 - bl q)) = ((q * 2 ^ (24 - bl q) : Nat) : Int) from by simp]
    exact wrap64u (by omega)
  · rw [show ((E : Int) * 8388608) = ((E * 8388608 : Nat) : Int) from by omega]
    exact wrap64u (by omega)
  · exact u64_join (n := 31) (by rcases hS with h | h <;> subst h <;> decide) (by omega) (by rcases hS with h | h <;> omega) (by omega)
  · exact u64_mask (n := 23) (by omega) (by decide)
  · rw [e]
    generalize q * 2 ^ (24 - bl q) = m at *
    have hz : S + G * 8388608 + m = S + E * 8388608 + m % 8388608 := by omega
    rw [← Nat.add_assoc, hz]
    refine u64_join (n := 23) ?_ (Nat.mod_lt _ (by decide)) (by rcases hS with h | h <;> omega) (by omega)
    rcases hS with h | h <;> subst h <;> omega
/-- **pack** at this format. -/
theorem Pack_S (neg : Bool) (v : Value) (n N : Nat) (e : Int) (w : World) (h : DN w v n N) (hn : n ≤ 9) (he1 : -3000 ≤ e) (he2 : e ≤ 3000) :
    Calls Tryd.prog 57 #[.bool neg, v, .int .i64 e, .int .i64 24, .int .i64 8] w fun e' w' => e' = .returned (.tuple #[.int .u64 (if repS (N / 2 ^ tz N) (e + tz N) = true then (if neg = true then 2147483648 else 0) + encF Ieee.single (N / 2 ^ tz N) (e + tz N) else 0 : Nat), .bool (repS (N / 2 ^ tz N) (e + tz N))]) ∧ Below w.heap.size w w' := by
  have C := pk_calls v n N w h (by omega)
  by_cases c : N = 0
  · subst c
    have hr : repS (0 / 2 ^ tz 0) (e + tz 0) = true := by rw [Nat.zero_div]; rfl
    rw [hr, if_pos rfl, Nat.zero_div, encF_zero, Nat.add_zero]
    rw [bl_zero] at C
    cases neg with
    | true => exact Pack_zero_Sn v e _ _ _ w (Lib.hid C)
    | false => exact Pack_zero_Sp v e _ _ _ w (Lib.hid C)
  · rw [if_neg c] at C
    have hN : 0 < N := Nat.pos_of_ne_zero c
    obtain ⟨hq, hm, hbl⟩ := odd_split hN
    have hblN := (bl_le_iff N (32 * n)).2 h.1
    have hbq := bl_pos hq
    have hL0 : (((bl N : Nat) : Int) == 0) = false := by simp; omega
    generalize N / 2 ^ tz N = q at *
    generalize ht : tz N = t at *
    generalize bl N = L at *
    obtain ⟨k, hk⟩ : ∃ k, k = e + (t : Int) := ⟨_, rfl⟩
    rw [← hk]
    have CH := Lib.hid C
    by_cases c1 : bl q ≤ 24
    · by_cases c2 : k + (bl q : Int) - 1 ≤ 127
      · by_cases c3 : -149 ≤ k
        · have hr : repS q k = true := repS_iff.2 (.inr ⟨c1, c3, by omega⟩)
          rw [hr, if_pos rfl]
          have hq64 : q < 18446744073709551616 := Nat.lt_trans ((bl_le_iff q 24).1 c1) (by decide)
          have NH := Lib.hid (pk_nat hq64)
          by_cases c4 : k + (bl q : Int) - 1 < -126
          · cases neg with
            | true =>
              obtain ⟨y, j, e1, e2, e3, e4⟩ := pk_sub_S hq c1 c4 c3 2147483648 (.inr rfl)
              exact Pack_sub_Sn v e k L t q (bl q) w hL0 (by omega) (by omega) (by omega) (by omega) hk.symm (by omega) (by omega) CH NH (by omega) c4 c3 _ y j e1 e2 e3 e4
            | false =>
              obtain ⟨y, j, e1, e2, e3, e4⟩ := pk_sub_S hq c1 c4 c3 0 (.inl rfl)
              exact Pack_sub_Sp v e k L t q (bl q) w hL0 (by omega) (by omega) (by omega) (by omega) hk.symm (by omega) (by omega) CH NH (by omega) c4 c3 _ y j e1 e2 e3 e4
          · cases neg with
            | true =>
              obtain ⟨y, m, E, x, n, j, e1, e2, e3, e4, e5, e6, e7, e8, e9⟩ := pk_norm_S hq c1 (by omega) c2 2147483648 (.inr rfl)
              exact Pack_norm_Sn v e k L t q (bl q) w hL0 (by omega) (by omega) (by omega) (by omega) hk.symm (by omega) (by omega) CH NH (by omega) (by omega) c3 c2 _ y m E x n j e1 e2 e3 e4 e5 e6 e7 e8 e9
            | false =>
              obtain ⟨y, m, E, x, n, j, e1, e2, e3, e4, e5, e6, e7, e8, e9⟩ := pk_norm_S hq c1 (by omega) c2 0 (.inl rfl)
              exact Pack_norm_Sp v e k L t q (bl q) w hL0 (by omega) (by omega) (by omega) (by omega) hk.symm (by omega) (by omega) CH NH (by omega) (by omega) c3 c2 _ y m E x n j e1 e2 e3 e4 e5 e6 e7 e8 e9
        · have hr : repS q k = false := by
            cases hx : repS q k with
            | false => rfl
            | true => rcases repS_iff.1 hx with h | h <;> omega
          rw [hr, if_neg (by decide)]
          cases neg with
          | true => exact Pack_noc_Sn v e k L t q (bl q) w hL0 (by omega) (by omega) (by omega) (by omega) hk.symm (by omega) (by omega) CH (by omega) c2 (by omega)
          | false => exact Pack_noc_Sp v e k L t q (bl q) w hL0 (by omega) (by omega) (by omega) (by omega) hk.symm (by omega) (by omega) CH (by omega) c2 (by omega)
      · have hr : repS q k = false := by
          cases hx : repS q k with
          | false => rfl
          | true => rcases repS_iff.1 hx with h | h <;> omega
        rw [hr, if_neg (by decide)]
        cases neg with
        | true => exact Pack_nob_Sn v e k L t q (bl q) w hL0 (by omega) (by omega) (by omega) (by omega) hk.symm (by omega) (by omega) CH (by omega) (by omega)
        | false => exact Pack_nob_Sp v e k L t q (bl q) w hL0 (by omega) (by omega) (by omega) (by omega) hk.symm (by omega) (by omega) CH (by omega) (by omega)
    · have hr : repS q k = false := by
        cases hx : repS q k with
        | false => rfl
        | true => rcases repS_iff.1 hx with h | h <;> omega
      rw [hr, if_neg (by decide)]
      cases neg with
      | true => exact Pack_noa_Sn v e k L t q (bl q) w hL0 (by omega) (by omega) (by omega) (by omega) hk.symm (by omega) (by omega) CH (by omega)
      | false => exact Pack_noa_Sp v e k L t q (bl q) w hL0 (by omega) (by omega) (by omega) (by omega) hk.symm (by omega) (by omega) CH (by omega)
/-- the word of a float that is below the normal ones -/
theorem pk_sub_H {q : Nat} {k : Int} (hq : 0 < q) (h1 : bl q ≤ 11) (h2 : k + (bl q : Int) - 1 < -14) (h3 : -24 ≤ k) (S : Nat) (hS : S = 0 ∨ S = 32768) :
    ∃ y j : Nat, k - (-24) = (j : Int) ∧ j ≤ 60 ∧ IntKind.u64.wrap ((q : Int) * 2 ^ j) = (y : Int) ∧ bits BinOp.or IntKind.u64 (S : Int) (y : Int) = ((S + encF halfF q k : Nat) : Int) := by
  obtain ⟨d1, d2, d3, _, _⟩ := hlfF
  have hb := bl_pos hq
  have e := encF_sub halfF hq (k := k) (by rw [d1, d2]; omega)
  rw [d2] at e
  obtain ⟨j, hj⟩ : ∃ j : Nat, j = (k - (-24)).toNat := ⟨_, rfl⟩
  have hjj : k - (-24) = (j : Int) := by omega
  have hy : q * 2 ^ j < 1024 := by
    have h := (bl_le_iff (q * 2 ^ j) 10).1 (by rw [bl_mul_two_pow hq]; omega)
    exact h
  refine ⟨q * 2 ^ j, j, hjj, by omega, ?_, ?_⟩
  · rw [show ((q : Int) * 2 ^ j) = ((q * 2 ^ j : Nat) : Int) from by simp]
    exact wrap64u (by omega)
  · rw [e, show (k - -24).toNat = j from by omega]
    generalize q * 2 ^ j = y at *
    exact u64_join (n := 10) (by rcases hS with h | h <;> subst h <;> decide) hy (by rcases hS with h | h <;> omega) (by omega)
/-- the word of a normal float -/
theorem pk_norm_H {q : Nat} {k : Int} (hq : 0 < q) (h1 : bl q ≤ 11) (h2 : -14 ≤ k + (bl q : Int) - 1) (h4 : k + (bl q : Int) - 1 ≤ 15) (S : Nat) (hS : S = 0 ∨ S = 32768) :
    ∃ y m E x n j : Nat, 11 - (bl q : Int) = (j : Int) ∧ j ≤ 60 ∧ IntKind.u64.wrap ((q : Int) * 2 ^ j) = (m : Int) ∧ k + (bl q : Int) - 1 + 15 = (E : Int) ∧ E ≤ 3000 ∧ IntKind.u64.wrap ((E : Int) * 1024) = (x : Int) ∧
      bits BinOp.or IntKind.u64 (S : Int) (x : Int) = (y : Int) ∧ bits BinOp.and IntKind.u64 (m : Int) 1023 = (n : Int) ∧ bits BinOp.or IntKind.u64 (y : Int) (n : Int) = ((S + encF halfF q k : Nat) : Int) := by
  obtain ⟨d1, d2, d3, _, _⟩ := hlfF
  have hb := bl_pos hq
  have e := encF_normal halfF hq (k := k) (by rw [d1]; omega) (by rw [d1, d2]; omega)
  rw [d1, d2, d3] at e
  obtain ⟨h5, h6⟩ := top_bits (n := 10) hq (by omega)
  rw [show 10 + 1 - bl q = 11 - bl q from by omega] at e h5 h6
  obtain ⟨E, hE⟩ : ∃ E : Nat, E = (k + (bl q : Int) - 1 + 15).toNat := ⟨_, rfl⟩
  have hEE : k + (bl q : Int) - 1 + 15 = (E : Int) := by omega
  have hg : (k + (bl q : Int) - 1 - ((10 : Nat) : Int) - -24).toNat + 1 = E := by omega
  have hE2 : E ≤ 30 := by omega
  have hE1 : 1 ≤ E := by omega
  generalize (k + (bl q : Int) - 1 - ((10 : Nat) : Int) - -24).toNat = G at e hg
  refine ⟨S + E * 1024, q * 2 ^ (11 - bl q), E, E * 1024, q * 2 ^ (11 - bl q) % 1024, 11 - bl q, by omega, by omega, ?_, hEE, by omega, ?_, ?_, ?_, ?_⟩
  · rw [show ((q : Int) * 2 ^ (11 - bl q)) = ((q * 2 ^ (11 - bl q) : Nat) : Int) from by simp]
    exact wrap64u (by omega)
  · rw [show ((E : Int) * 1024) = ((E * 1024 : Nat) : Int) from by omega]
    exact wrap64u (by omega)
  · exact u64_join (n := 15) (by rcases hS with h | h <;> subst h <;> decide) (by omega) (by rcases hS with h | h <;> omega) (by omega)
  · exact u64_mask (n := 10) (by omega) (by decide)
  · rw [e]
    generalize q * 2 ^ (11 - bl q) = m at *
    have hz : S + G * 1024 + m = S + E * 1024 + m % 1024 := by omega
    rw [← Nat.add_assoc, hz]
    refine u64_join (n := 10) ?_ (Nat.mod_lt _ (by decide)) (by rcases hS with h | h <;> omega) (by omega)
    rcases hS with h | h <;> subst h <;> omega
/-- **pack** at this format. -/
theorem Pack_H (neg : Bool) (v : Value) (n N : Nat) (e : Int) (w : World) (h : DN w v n N) (hn : n ≤ 9) (he1 : -3000 ≤ e) (he2 : e ≤ 3000) :
    Calls Tryd.prog 57 #[.bool neg, v, .int .i64 e, .int .i64 11, .int .i64 5] w fun e' w' => e' = .returned (.tuple #[.int .u64 (if repH (N / 2 ^ tz N) (e + tz N) = true then (if neg = true then 32768 else 0) + encF halfF (N / 2 ^ tz N) (e + tz N) else 0 : Nat), .bool (repH (N / 2 ^ tz N) (e + tz N))]) ∧ Below w.heap.size w w' := by
  have C := pk_calls v n N w h (by omega)
  by_cases c : N = 0
  · subst c
    have hr : repH (0 / 2 ^ tz 0) (e + tz 0) = true := by rw [Nat.zero_div]; rfl
    rw [hr, if_pos rfl, Nat.zero_div, encF_zero, Nat.add_zero]
    rw [bl_zero] at C
    cases neg with
    | true => exact Pack_zero_Hn v e _ _ _ w (Lib.hid C)
    | false => exact Pack_zero_Hp v e _ _ _ w (Lib.hid C)
  · rw [if_neg c] at C
    have hN : 0 < N := Nat.pos_of_ne_zero c
    obtain ⟨hq, hm, hbl⟩ := odd_split hN
    have hblN := (bl_le_iff N (32 * n)).2 h.1
    have hbq := bl_pos hq
    have hL0 : (((bl N : Nat) : Int) == 0) = false := by simp; omega
    generalize N / 2 ^ tz N = q at *
    generalize ht : tz N = t at *
    generalize bl N = L at *
    obtain ⟨k, hk⟩ : ∃ k, k = e + (t : Int) := ⟨_, rfl⟩
    rw [← hk]
    have CH := Lib.hid C
    by_cases c1 : bl q ≤ 11
    · by_cases c2 : k + (bl q : Int) - 1 ≤ 15
      · by_cases c3 : -24 ≤ k
        · have hr : repH q k = true := repH_iff.2 (.inr ⟨c1, c3, by omega⟩)
          rw [hr, if_pos rfl]
          have hq64 : q < 18446744073709551616 := Nat.lt_trans ((bl_le_iff q 11).1 c1) (by decide)
          have NH := Lib.hid (pk_nat hq64)
          by_cases c4 : k + (bl q : Int) - 1 < -14
          · cases neg with
            | true =>
              obtain ⟨y, j, e1, e2, e3, e4⟩ := pk_sub_H hq c1 c4 c3 32768 (.inr rfl)
              exact Pack_sub_Hn v e k L t q (bl q) w hL0 (by omega) (by omega) (by omega) (by omega) hk.symm (by omega) (by omega) CH NH (by omega) c4 c3 _ y j e1 e2 e3 e4
            | false =>
              obtain ⟨y, j, e1, e2, e3, e4⟩ := pk_sub_H hq c1 c4 c3 0 (.inl rfl)
              exact Pack_sub_Hp v e k L t q (bl q) w hL0 (by omega) (by omega) (by omega) (by omega) hk.symm (by omega) (by omega) CH NH (by omega) c4 c3 _ y j e1 e2 e3 e4
          · cases neg with
            | true =>
              obtain ⟨y, m, E, x, n, j, e1, e2, e3, e4, e5, e6, e7, e8, e9⟩ := pk_norm_H hq c1 (by omega) c2 32768 (.inr rfl)
              exact Pack_norm_Hn v e k L t q (bl q) w hL0 (by omega) (by omega) (by omega) (by omega) hk.symm (by omega) (by omega) CH NH (by omega) (by omega) c3 c2 _ y m E x n j e1 e2 e3 e4 e5 e6 e7 e8 e9
            | false =>
              obtain ⟨y, m, E, x, n, j, e1, e2, e3, e4, e5, e6, e7, e8, e9⟩ := pk_norm_H hq c1 (by omega) c2 0 (.inl rfl)
              exact Pack_norm_Hp v e k L t q (bl q) w hL0 (by omega) (by omega) (by omega) (by omega) hk.symm (by omega) (by omega) CH NH (by omega) (by omega) c3 c2 _ y m E x n j e1 e2 e3 e4 e5 e6 e7 e8 e9
        · have hr : repH q k = false := by
            cases hx : repH q k with
            | false => rfl
            | true => rcases repH_iff.1 hx with h | h <;> omega
          rw [hr, if_neg (by decide)]
          cases neg with
          | true => exact Pack_noc_Hn v e k L t q (bl q) w hL0 (by omega) (by omega) (by omega) (by omega) hk.symm (by omega) (by omega) CH (by omega) c2 (by omega)
          | false => exact Pack_noc_Hp v e k L t q (bl q) w hL0 (by omega) (by omega) (by omega) (by omega) hk.symm (by omega) (by omega) CH (by omega) c2 (by omega)
      · have hr : repH q k = false := by
          cases hx : repH q k with
          | false => rfl
          | true => rcases repH_iff.1 hx with h | h <;> omega
        rw [hr, if_neg (by decide)]
        cases neg with
        | true => exact Pack_nob_Hn v e k L t q (bl q) w hL0 (by omega) (by omega) (by omega) (by omega) hk.symm (by omega) (by omega) CH (by omega) (by omega)
        | false => exact Pack_nob_Hp v e k L t q (bl q) w hL0 (by omega) (by omega) (by omega) (by omega) hk.symm (by omega) (by omega) CH (by omega) (by omega)
    · have hr : repH q k = false := by
        cases hx : repH q k with
        | false => rfl
        | true => rcases repH_iff.1 hx with h | h <;> omega
      rw [hr, if_neg (by decide)]
      cases neg with
      | true => exact Pack_noa_Hn v e k L t q (bl q) w hL0 (by omega) (by omega) (by omega) (by omega) hk.symm (by omega) (by omega) CH (by omega)
      | false => exact Pack_noa_Hp v e k L t q (bl q) w hL0 (by omega) (by omega) (by omega) (by omega) hk.symm (by omega) (by omega) CH (by omega)
end Go.Proofs.YtpmfnhcnldoelaaDoor
