/- Contract of package float: Half. -/
import Derived.Test.YtpmfnhcnldoelaaDoorLdexp
namespace Go.Proofs.YtpmfnhcnldoelaaDoor
open Go.RowKit
/-- a half's fields -/
def hM (h : Nat) : Nat := h % 1024
def hE (h : Nat) : Nat := h / 1024 % 32
/-- a half's number ahead of its power of two, and that power -/
def hP (h : Nat) : Nat := if hE h = 0 then hM h else hM h + 1024
def hK (h : Nat) : Int := if hE h = 0 then -24 else (hE h : Int) - 25
/-- a half as a float of 64 bits -/
def halfV (h : Nat) : Nat := if hE h = 31 then (if hM h = 0 then h / 32768 * 9223372036854775808 + 9218868437227405312 else 9221120237041090560) else h / 32768 * 9223372036854775808 + encF Ieee.double (hP h) (hK h)
/-- what a call of Ldexp answers, kept from the walk -/
def LdAns (X : Nat) (k : Int) (F : Nat) : Prop := ∀ w, Calls Tryd.prog 46 #[.float .f64 X, .int .i64 k] w fun e w' => e = .returned (.float .f64 F) ∧ w = w'
set_option maxHeartbeats 400000 in
theorem Half_sub (h m s X F V : Nat) (_hh : h < 65536) (w : World) (em : bits BinOp.and IntKind.u16 (h : Int) 1023 = (m : Int)) (ee : bits BinOp.and IntKind.u16 ((h : Int) / 1024) 31 = 0) (hm : m ≤ 1023) (en : floatOfInt FloatKind.f64 (m : Int) = X) (es : (h : Int) / 32768 = s) (hs : s ≤ 1) (_hF : F < 9223372036854775808) (hL : LdAns X (-24) F) (eV : bits BinOp.or IntKind.u64 (F : Int) ((s : Int) * 9223372036854775808) = (V : Int)) :
    Calls Tryd.prog 26 #[.int .u16 h] w fun e w' => e = .returned (.int .u64 V) ∧ w = w' := by
  go_enter Tryd.func26, Tryd.ntmps26
  repeat any_goals (first | (go_at_call 46; refine (hL _).mono ?_; rintro e w' ⟨rfl, rfl⟩) | go_skip | go_guarded | go_step | go_upon | (dsimp only []))
  go_ret
  exact ⟨by simp, rfl⟩
set_option maxHeartbeats 400000 in
theorem Half_nan (h m _s X F : Nat) (_hh : h < 65536) (w : World) (em : bits BinOp.and IntKind.u16 (h : Int) 1023 = (m : Int)) (ee : bits BinOp.and IntKind.u16 ((h : Int) / 1024) 31 = 31) (hm : m ≤ 1023) (en : floatOfInt FloatKind.f64 (m : Int) = X) (hm0 : ((m : Int) != 0) = true) (hL : LdAns X (-24) F) :
    Calls Tryd.prog 26 #[.int .u16 h] w fun e w' => e = .returned (.int .u64 9221120237041090560) ∧ w = w' := by
  go_enter Tryd.func26, Tryd.ntmps26
  repeat any_goals (first | (go_at_call 46; refine (hL _).mono ?_; rintro e w' ⟨rfl, rfl⟩) | go_skip | go_guarded | go_step | go_upon | (dsimp only []))
  go_ret
  exact ⟨by simp, rfl⟩
set_option maxHeartbeats 400000 in
theorem Half_inf (h s X F V : Nat) (_hh : h < 65536) (w : World) (em : bits BinOp.and IntKind.u16 (h : Int) 1023 = 0) (ee : bits BinOp.and IntKind.u16 ((h : Int) / 1024) 31 = 31) (en : floatOfInt FloatKind.f64 0 = X) (es : (h : Int) / 32768 = s) (hs : s ≤ 1) (hL : LdAns X (-24) F) (eV : bits BinOp.or IntKind.u64 9218868437227405312 ((s : Int) * 9223372036854775808) = (V : Int)) :
    Calls Tryd.prog 26 #[.int .u16 h] w fun e w' => e = .returned (.int .u64 V) ∧ w = w' := by
  go_enter Tryd.func26, Tryd.ntmps26
  repeat any_goals (first | (go_at_call 46; refine (hL _).mono ?_; rintro e w' ⟨rfl, rfl⟩) | (go_at_call 47; refine (Inf_pos _).mono ?_; rintro e w' ⟨rfl, rfl⟩) | go_skip | go_guarded | go_step | go_upon | (dsimp only []))
  go_ret
  exact ⟨by simp, rfl⟩
set_option maxHeartbeats 400000 in
theorem Half_norm (h m e s X F m' X' G V : Nat) (_hh : h < 65536) (w : World) (em : bits BinOp.and IntKind.u16 (h : Int) 1023 = (m : Int)) (ee : bits BinOp.and IntKind.u16 ((h : Int) / 1024) 31 = (e : Int)) (he : 1 ≤ e) (he2 : e ≤ 30) (t1 : ((e : Int) == 31) = false) (hm : m ≤ 1023) (en : floatOfInt FloatKind.f64 (m : Int) = X) (em' : bits BinOp.or IntKind.u64 (m : Int) 1024 = (m' : Int)) (_hm' : m' ≤ 2047) (en' : floatOfInt FloatKind.f64 (m' : Int) = X') (es : (h : Int) / 32768 = s) (hs : s ≤ 1) (_hG : G < 9223372036854775808) (hL : LdAns X (-24) F) (hL' : LdAns X' ((e : Int) - 25) G) (eV : bits BinOp.or IntKind.u64 (G : Int) ((s : Int) * 9223372036854775808) = (V : Int)) :
    Calls Tryd.prog 26 #[.int .u16 h] w fun e w' => e = .returned (.int .u64 V) ∧ w = w' := by
  go_enter Tryd.func26, Tryd.ntmps26
  repeat any_goals (first | fail | go_skip | go_guarded | go_step | go_upon | (dsimp only []))
  refine (hL _).mono ?_
  rintro e w' ⟨rfl, rfl⟩
  repeat any_goals (first | fail | go_skip | go_guarded | go_step | go_upon | (dsimp only []))
  refine (hL' _).mono ?_
  rintro e w' ⟨rfl, rfl⟩
  repeat any_goals (first | fail | go_skip | go_guarded | go_step | go_upon | (dsimp only []))
  go_ret
  exact ⟨by simp, rfl⟩
theorem LdAns_int {n : Nat} (hb : bl n ≤ 53) (k : Int) (h1 : n = 0 ∨ -1022 ≤ k + bl n - 1) (h2 : n = 0 ∨ k + bl n - 1 ≤ 1023) : LdAns (floatOfInt FloatKind.f64 (n : Int)) k (encF Ieee.double n k) := by
  intro w
  by_cases h0 : n = 0
  · subst h0
    have e1 : floatOfInt FloatKind.f64 ((0 : Nat) : Int) = 0 := nearest_zero
    have e2 : encF Ieee.double 0 k = 0 := by simp [encF]
    rw [e1, e2]
    exact Ldexp_zero k w
  · have e1 : floatOfInt FloatKind.f64 (n : Int) = encF Ieee.double n 0 := nearest_int (by omega) hb
    rw [e1]
    exact Ldexp_any n (by omega) hb k (by omega) (by omega) w
theorem wsign {F s : Nat} (hF : F < 9223372036854775808) (hs : s ≤ 1) : bits BinOp.or IntKind.u64 (F : Int) ((s : Int) * 9223372036854775808) = ((s * 9223372036854775808 + F : Nat) : Int) := by
  have h := u64_or_nat F (s * 9223372036854775808) (by omega) (by omega)
  rw [Nat.or_comm, nat_join 63 _ F (Nat.mul_mod_left _ _) hF] at h
  rw [← h]
  simp
theorem hP_bl (h : Nat) : bl (hP h) ≤ 11 := (bl_le_iff _ 11).2 (by unfold hP hM hE; split <;> omega)
theorem encF_lt63 {n : Nat} {k : Int} (hb : bl n ≤ 53) (h1 : -1074 ≤ k) (h2 : k + bl n ≤ 1024) : encF Ieee.double n k < 9218868437227405312 := by
  by_cases h0 : n = 0
  · subst h0; simp [encF]
  · exact encD_lt (by omega) ⟨hb, h1, h2⟩
/-- **Half.** -/
theorem Half_any (h : Nat) (hh : h < 65536) (w : World) :
    Calls Tryd.prog 26 #[.int .u16 h] w fun e w' => e = .returned (.int .u64 (halfV h : Nat)) ∧ w = w' := by
  have hM1 : hM h ≤ 1023 := by unfold hM; omega
  have hE1 : hE h ≤ 31 := by unfold hE; omega
  have em : bits BinOp.and IntKind.u16 (h : Int) 1023 = (hM h : Int) := by
    have e := u16_and_nat h 1023 hh (by omega)
    rw [nat_mask10] at e
    exact e
  have ee : bits BinOp.and IntKind.u16 ((h : Int) / 1024) 31 = (hE h : Int) := by
    have e := u16_and_nat (h / 1024) 31 (by omega) (by omega)
    rw [nat_mask5] at e
    rw [show ((h : Int) / 1024) = ((h / 1024 : Nat) : Int) from by omega]
    exact e
  have es : (h : Int) / 32768 = ((h / 32768 : Nat) : Int) := by omega
  have hs : h / 32768 ≤ 1 := by omega
  have b1 : bl (hM h) ≤ 10 := (bl_le_iff _ 10).2 (by omega)
  have z1 : hM h = 0 ∨ -1022 ≤ (-24 : Int) + bl (hM h) - 1 := by
    by_cases h0 : hM h = 0
    · exact .inl h0
    · have := bl_pos (n := hM h) (by omega)
      exact .inr (by omega)
  have L1 : LdAns (floatOfInt FloatKind.f64 (hM h : Int)) (-24) (encF Ieee.double (hM h) (-24)) := LdAns_int (by omega) _ z1 (by right; omega)
  have F1 : encF Ieee.double (hM h) (-24) < 9218868437227405312 := encF_lt63 (by omega) (by omega) (by omega)
  by_cases c31 : hE h = 31
  · rw [c31] at ee
    by_cases c0 : hM h = 0
    · rw [c0] at em L1
      have hv : halfV h = h / 32768 * 9223372036854775808 + 9218868437227405312 := by unfold halfV; rw [if_pos c31, if_pos c0]
      rw [hv]
      exact Half_inf h (h / 32768) _ _ _ hh w em ee rfl es hs L1 (wsign (F := 9218868437227405312) (by omega) hs)
    · have hv : halfV h = 9221120237041090560 := by unfold halfV; rw [if_pos c31, if_neg c0]
      rw [hv]
      exact Half_nan h (hM h) (h / 32768) _ _ hh w em ee hM1 rfl (by simp; omega) L1
  · by_cases c0 : hE h = 0
    · rw [c0] at ee
      have hv : halfV h = h / 32768 * 9223372036854775808 + encF Ieee.double (hM h) (-24) := by unfold halfV; rw [if_neg c31]; unfold hP hK; rw [if_pos c0, if_pos c0]
      rw [hv]
      exact Half_sub h (hM h) (h / 32768) _ _ _ hh w em ee hM1 rfl es hs (by omega) L1 (wsign (by omega) hs)
    · have hv : halfV h = h / 32768 * 9223372036854775808 + encF Ieee.double (hM h + 1024) ((hE h : Int) - 25) := by unfold halfV; rw [if_neg c31]; unfold hP hK; rw [if_neg c0, if_neg c0]
      have em' : bits BinOp.or IntKind.u64 (hM h : Int) 1024 = ((hM h + 1024 : Nat) : Int) := by
        have e := u64_or_nat (hM h) 1024 (by omega) (by omega)
        rw [Nat.or_comm, nat_join 10 1024 _ (by decide) (by omega), Nat.add_comm] at e
        exact e
      have b2 : bl (hM h + 1024) = 11 := bl_eq_iff (k := 10) (by omega) (by omega)
      have L2 : LdAns (floatOfInt FloatKind.f64 ((hM h + 1024 : Nat) : Int)) ((hE h : Int) - 25) (encF Ieee.double (hM h + 1024) ((hE h : Int) - 25)) := LdAns_int (by omega) _ (by right; omega) (by right; omega)
      have F2 : encF Ieee.double (hM h + 1024) ((hE h : Int) - 25) < 9218868437227405312 := encF_lt63 (by omega) (by omega) (by omega)
      rw [hv]
      exact Half_norm h (hM h) (hE h) (h / 32768) _ _ (hM h + 1024) _ _ _ hh w em ee (by omega) (by omega) (by simp; omega) hM1 rfl em' (by omega) rfl es hs (by omega) L1 L2 (wsign (by omega) hs)
end Go.Proofs.YtpmfnhcnldoelaaDoor
