/- The law FloatHalves. -/
import Derived.Test.YtpmfnhcnldoelaaDoorMathTh
import Derived.Test.YtpmfnhcnldoelaaDoorToldA
namespace Go.Proofs.YtpmfnhcnldoelaaDoor
open Go.RowKit
theorem hinf_back {b : Nat} (hb : b < 18446744073709551616) (hf : fe b = 2047) (hm : fm b = 0) : b / 9223372036854775808 * 32768 + 31744 < 65536 ∧ halfV (b / 9223372036854775808 * 32768 + 31744) = b := by
  have hs : b / 9223372036854775808 ≤ 1 := by omega
  have h1 : b = b / 9223372036854775808 * 9223372036854775808 + 9218868437227405312 := by unfold fe at hf; unfold fm at hm; omega
  generalize b / 9223372036854775808 = n at *
  have e1 : hE (n * 32768 + 31744) = 31 := by unfold hE; omega
  have e2 : hM (n * 32768 + 31744) = 0 := by unfold hM; omega
  have e3 : (n * 32768 + 31744) / 32768 = n := by omega
  refine ⟨by omega, ?_⟩
  unfold halfV
  rw [if_pos e1, if_pos e2, e3]
  exact h1.symm
theorem th_back {b : Nat} (hb : b < 18446744073709551616) (h : thOk b = true) (hn : fe b = 2047 → fm b ≠ 0 → b = 9221120237041090560) : thV b < 65536 ∧ halfV (thV b) = b := by
  by_cases c : fe b = 2047
  · by_cases d : fm b = 0
    · have e : thV b = b / 9223372036854775808 * 32768 + 31744 := by unfold thV; rw [if_pos c, if_pos d]
      rw [e]
      exact hinf_back hb c d
    · have e : thV b = 32256 := by unfold thV; rw [if_pos c, if_neg d]
      rw [e, hn c d]
      exact ⟨by decide, by decide +kernel⟩
  · have r : repH (pm b) (pk b) = true := by
      unfold thOk at h
      simpa [c] using h
    have e : thV b = hlfOf b := by unfold thV; rw [if_neg c, if_pos r]
    obtain ⟨q1, _, q2⟩ := hlfOf_back hb c r
    rw [e]
    exact ⟨q1, q2⟩
theorem ts_back {b : Nat} (hb : b < 18446744073709551616) (h : tsOk b = true) (hn : fe b = 2047 → fm b ≠ 0 → b = 9221120237041090560) : tsV b < 4294967296 ∧ singleV (tsV b) = b := by
  by_cases c : fe b = 2047
  · by_cases d : fm b = 0
    · have e : tsV b = b / 9223372036854775808 * 2147483648 + 2139095040 := by unfold tsV; rw [if_pos c, if_pos d]
      rw [e]
      exact inf_back hb c d
    · have e : tsV b = 2143289344 := by unfold tsV; rw [if_pos c, if_neg d]
      rw [e, hn c d]
      exact ⟨by decide, by decide +kernel⟩
  · have r : repS (pm b) (pk b) = true := by
      unfold tsOk at h
      simpa [c] using h
    have e : tsV b = sglOf b := by unfold tsV; rw [if_neg c, if_pos r]
    obtain ⟨q1, _, q2⟩ := sglOf_back hb c r
    rw [e]
    exact ⟨q1, q2⟩
theorem sgl_fe {s : Nat} (hf : sE s ≠ 255) : fe (singleV s) ≠ 2047 := by
  unfold singleV
  rw [if_neg hf]
  exact fe_sign (sgl_enc_lt hf)
theorem sgl_nan {s : Nat} (_hs : s < 4294967296) (h1 : fe (singleV s) = 2047) (h2 : fm (singleV s) ≠ 0) : singleV s = 9221120237041090560 := by
  by_cases c : sE s = 255
  · unfold singleV at h2 ⊢
    rw [if_pos c] at h2 ⊢
    split
    · rename_i d
      rw [if_pos d] at h2
      exfalso
      apply h2
      unfold fm
      omega
    · rfl
  · exact absurd h1 (sgl_fe c)
theorem sgl_ok {s : Nat} (hs : s < 4294967296) : tsOk (singleV s) = true := by
  unfold tsOk
  by_cases c : fe (singleV s) = 2047
  · rw [c]; rfl
  · rw [sgl_only hs c rfl, Bool.or_true]
theorem halves_bounds {s : Nat} (hs : s < 4294967296) (hf : sE s ≠ 255) (h0 : s % 2147483648 ≠ 0) (h : thOk (singleV s) = true) : 103 ≤ sE s ∧ sE s ≤ 142 := by
  have hfe := sgl_fe hf
  have r : repH (pm (singleV s)) (pk (singleV s)) = true := by
    unfold thOk at h
    simpa [hfe] using h
  have hp : 0 < sP s := by unfold sP sM sE; split <;> omega
  have hr := sgl_repD hp hf
  have hn : s / 2147483648 ≤ 1 := by omega
  obtain ⟨a1, a2, a3, a4⟩ := parts_enc hp hr (s / 2147483648) hn
  have hv : singleV s = s / 2147483648 * 9223372036854775808 + encF Ieee.double (sP s) (sK s) := by unfold singleV; rw [if_neg hf]
  rw [hv, a3, a4] at r
  have hm : sP s / 2 ^ tz (sP s) * 2 ^ tz (sP s) = sP s := odd_part_mul _
  have hq : 0 < sP s / 2 ^ tz (sP s) := by
    have := odd_part_odd hp
    omega
  have hbl : bl (sP s / 2 ^ tz (sP s)) + tz (sP s) = bl (sP s) := by rw [← bl_mul_two_pow hq, hm]
  have hq1 := bl_pos hq
  have hE0 : sE s ≤ 254 := by have := sE_le s; omega
  have hbs : sE s ≠ 0 → bl (sP s) = 24 := by
    intro c
    apply bl_eq_iff (k := 23)
    · unfold sP; rw [if_neg c]; omega
    · have := sP_lt s; omega
  have hbs0 : bl (sP s) ≤ 24 := sP_bl s
  have hK0 : sK s = (if sE s = 0 then 1 else (sE s : Int)) - 150 := rfl
  rcases repH_iff.1 r with h | ⟨r1, r2, r3⟩
  · omega
  · clear a1 a2 a3 a4 hr hv h0 h hs hn hm hfe r hp hf
    generalize sP s / 2 ^ tz (sP s) = q at *
    generalize tz (sP s) = t at *
    generalize bl (sP s) = u at *
    generalize sE s = x at *
    generalize sK s = y at *
    by_cases c : x = 0
    · rw [if_pos c] at hK0; omega
    · rw [if_neg c] at hK0; have := hbs c; omega
/-- what Single, ToHalf and ToSingle answer at a single -/
structure HvCalls (s B h t : Nat) (ok : Bool) : Prop where
  c1 : ∀ w : World, Tab w → Calls Tryd.prog 28 #[.int .u32 s] w fun e w' => e = .returned (.int .u64 B) ∧ Below w.heap.size w w'
  c2 : ∀ w : World, Tab w → Calls Tryd.prog 24 #[.int .u64 B] w fun e w' => e = .returned (.tuple #[.int .u16 h, .bool ok]) ∧ Below w.heap.size w w'
  c3 : ∀ w : World, Tab w → Calls Tryd.prog 22 #[.int .u64 B] w fun e w' => e = .returned (.tuple #[.int .u32 t, .bool true]) ∧ Below w.heap.size w w'
  c4 : ok = true → ∀ w : World, Calls Tryd.prog 26 #[.int .u16 h] w fun e w' => e = .returned (.int .u64 B) ∧ w = w'
  c5 : ∀ w : World, Tab w → Calls Tryd.prog 28 #[.int .u32 t] w fun e w' => e = .returned (.int .u64 B) ∧ Below w.heap.size w w'
theorem hv_calls (s : Nat) (hs : s < 4294967296) : HvCalls s (singleV s) (thV (singleV s)) (tsV (singleV s)) (thOk (singleV s)) := by
  have hB := singleV_lt hs
  obtain ⟨t1, t2⟩ := ts_back hB (sgl_ok hs) (sgl_nan hs)
  refine ⟨fun w hT => Single_any s hs w hT, fun w hT => ToHalf_any _ hB w hT, fun w hT => ?_, fun ok w => ?_, fun w hT => ?_⟩
  · have h := ToSingle_any _ hB w hT
    rw [sgl_ok hs] at h
    exact h
  · obtain ⟨h1, h2⟩ := th_back hB ok (sgl_nan hs)
    have h := Half_any _ h1 w
    rw [h2] at h
    exact h
  · have h := Single_any _ t1 w hT
    rw [t2] at h
    exact h
set_option maxHeartbeats 800000 in
theorem Halves_a (s B h t : Nat) (_hs : s < 4294967296) (w : World) (hT : Tab w) (C : Hid (HvCalls s B h t false)) :
    Calls Tryd.prog 8 #[.int .u32 s] w fun e w' => e = .returned (.bool true) ∧ Below w.heap.size w w' := by
  go_enter Tryd.func8, Tryd.ntmps8
  repeat any_goals (first | (go_at_call 28; refine (C.out.c1 _ hT).mono ?_; rintro e w1 ⟨rfl, hb1⟩) | (go_at_call 24; refine (C.out.c2 _ (hT.below hb1)).mono ?_; rintro e w2 ⟨rfl, hb2⟩) | (go_at_call 22; refine (C.out.c3 _ ((hT.below hb1).below hb2)).mono ?_; rintro e w3 ⟨rfl, hb3⟩) | (go_at_call 28; refine (C.out.c5 _ (((hT.below hb1).below hb2).below hb3)).mono ?_; rintro e w4 ⟨rfl, hb4⟩) | (go_at_call 13; refine (told_any _ ((((hT.below hb1).below hb2).below hb3).below hb4)).mono ?_; rintro e w5 ⟨rfl, hb5⟩) | go_skip | go_guarded | go_step | go_upon | (dsimp only []))
  go_ret
  exact ⟨by simp, by (repeat first | with_reducible exact Below.refl _ _ | with_reducible assumption | with_reducible refine Below.drew ?_ | with_reducible refine below_alloc ?_ _ | ((with_reducible refine Below.setCell ?_ ?_ _); rotate_left; (focus (first | with_reducible exact Nat.le_refl _ | (simp; done) | (simp; omega) | omega))) | (with_reducible refine below_trans ?_ (by assumption)))⟩
set_option maxHeartbeats 800000 in
theorem Halves_b (s B h t : Nat) (_hs : s < 4294967296) (w : World) (hT : Tab w) (C : Hid (HvCalls s B h t true)) (x : Nat) (hx : x ≤ 255) (e1 : bits BinOp.and IntKind.u32 ((s : Int) / 8388608) 255 = (x : Int)) (h1 : ((x : Int) != 255) = false):
    Calls Tryd.prog 8 #[.int .u32 s] w fun e w' => e = .returned (.bool true) ∧ Below w.heap.size w w' := by
  go_enter Tryd.func8, Tryd.ntmps8
  repeat any_goals (first | (go_at_call 28; refine (C.out.c1 _ hT).mono ?_; rintro e w1 ⟨rfl, hb1⟩) | (go_at_call 24; refine (C.out.c2 _ (hT.below hb1)).mono ?_; rintro e w2 ⟨rfl, hb2⟩) | (go_at_call 22; refine (C.out.c3 _ ((hT.below hb1).below hb2)).mono ?_; rintro e w3 ⟨rfl, hb3⟩) | (go_at_call 26; refine (C.out.c4 rfl _).mono ?_; rintro e w' ⟨rfl, rfl⟩) | (go_at_call 28; refine (C.out.c5 _ (((hT.below hb1).below hb2).below hb3)).mono ?_; rintro e w4 ⟨rfl, hb4⟩) | (go_at_call 13; refine (told_any _ ((((hT.below hb1).below hb2).below hb3).below hb4)).mono ?_; rintro e w5 ⟨rfl, hb5⟩) | go_skip | go_guarded | go_step | go_upon | (dsimp only []))
  go_ret
  exact ⟨by simp, by (repeat first | with_reducible exact Below.refl _ _ | with_reducible assumption | with_reducible refine Below.drew ?_ | with_reducible refine below_alloc ?_ _ | ((with_reducible refine Below.setCell ?_ ?_ _); rotate_left; (focus (first | with_reducible exact Nat.le_refl _ | (simp; done) | (simp; omega) | omega))) | (with_reducible refine below_trans ?_ (by assumption)))⟩
set_option maxHeartbeats 800000 in
theorem Halves_c (s B h t : Nat) (_hs : s < 4294967296) (w : World) (hT : Tab w) (C : Hid (HvCalls s B h t true)) (x : Nat) (hx : x ≤ 255) (e1 : bits BinOp.and IntKind.u32 ((s : Int) / 8388608) 255 = (x : Int)) (h1 : ((x : Int) != 255) = true) (y : Nat) (e2 : bits BinOp.and IntKind.u32 (s : Int) 2147483647 = (y : Int)) (h2 : ((y : Int) != 0) = false):
    Calls Tryd.prog 8 #[.int .u32 s] w fun e w' => e = .returned (.bool true) ∧ Below w.heap.size w w' := by
  go_enter Tryd.func8, Tryd.ntmps8
  repeat any_goals (first | (go_at_call 28; refine (C.out.c1 _ hT).mono ?_; rintro e w1 ⟨rfl, hb1⟩) | (go_at_call 24; refine (C.out.c2 _ (hT.below hb1)).mono ?_; rintro e w2 ⟨rfl, hb2⟩) | (go_at_call 22; refine (C.out.c3 _ ((hT.below hb1).below hb2)).mono ?_; rintro e w3 ⟨rfl, hb3⟩) | (go_at_call 26; refine (C.out.c4 rfl _).mono ?_; rintro e w' ⟨rfl, rfl⟩) | (go_at_call 28; refine (C.out.c5 _ (((hT.below hb1).below hb2).below hb3)).mono ?_; rintro e w4 ⟨rfl, hb4⟩) | (go_at_call 13; refine (told_any _ ((((hT.below hb1).below hb2).below hb3).below hb4)).mono ?_; rintro e w5 ⟨rfl, hb5⟩) | go_skip | go_guarded | go_step | go_upon | (dsimp only []))
  go_ret
  exact ⟨by simp, by (repeat first | with_reducible exact Below.refl _ _ | with_reducible assumption | with_reducible refine Below.drew ?_ | with_reducible refine below_alloc ?_ _ | ((with_reducible refine Below.setCell ?_ ?_ _); rotate_left; (focus (first | with_reducible exact Nat.le_refl _ | (simp; done) | (simp; omega) | omega))) | (with_reducible refine below_trans ?_ (by assumption)))⟩
set_option maxHeartbeats 800000 in
theorem Halves_d (s B h t : Nat) (_hs : s < 4294967296) (w : World) (hT : Tab w) (C : Hid (HvCalls s B h t true)) (x : Nat) (hx : x ≤ 255) (e1 : bits BinOp.and IntKind.u32 ((s : Int) / 8388608) 255 = (x : Int)) (h1 : ((x : Int) != 255) = true) (y : Nat) (e2 : bits BinOp.and IntKind.u32 (s : Int) 2147483647 = (y : Int)) (h2 : ((y : Int) != 0) = true) (h3 : 103 ≤ x) (h4 : x ≤ 142):
    Calls Tryd.prog 8 #[.int .u32 s] w fun e w' => e = .returned (.bool true) ∧ Below w.heap.size w w' := by
  go_enter Tryd.func8, Tryd.ntmps8
  repeat any_goals (first | (go_at_call 28; refine (C.out.c1 _ hT).mono ?_; rintro e w1 ⟨rfl, hb1⟩) | (go_at_call 24; refine (C.out.c2 _ (hT.below hb1)).mono ?_; rintro e w2 ⟨rfl, hb2⟩) | (go_at_call 22; refine (C.out.c3 _ ((hT.below hb1).below hb2)).mono ?_; rintro e w3 ⟨rfl, hb3⟩) | (go_at_call 26; refine (C.out.c4 rfl _).mono ?_; rintro e w' ⟨rfl, rfl⟩) | (go_at_call 28; refine (C.out.c5 _ (((hT.below hb1).below hb2).below hb3)).mono ?_; rintro e w4 ⟨rfl, hb4⟩) | (go_at_call 13; refine (told_any _ ((((hT.below hb1).below hb2).below hb3).below hb4)).mono ?_; rintro e w5 ⟨rfl, hb5⟩) | go_skip | go_guarded | go_step | go_upon | (dsimp only []))
  go_ret
  exact ⟨by simp, by (repeat first | with_reducible exact Below.refl _ _ | with_reducible assumption | with_reducible refine Below.drew ?_ | with_reducible refine below_alloc ?_ _ | ((with_reducible refine Below.setCell ?_ ?_ _); rotate_left; (focus (first | with_reducible exact Nat.le_refl _ | (simp; done) | (simp; omega) | omega))) | (with_reducible refine below_trans ?_ (by assumption)))⟩
/-- **FloatHalves.** -/
theorem Halves_any (s : Nat) (hs : s < 4294967296) (w : World) (hT : Tab w) :
    Calls Tryd.prog 8 #[.int .u32 s] w fun e w' => e = .returned (.bool true) ∧ Below w.heap.size w w' := by
  have H := hv_calls s hs
  have hx : sE s ≤ 255 := sE_le s
  have e1 : bits BinOp.and IntKind.u32 ((s : Int) / 8388608) 255 = ((sE s : Nat) : Int) := by
    have e := u32_and_nat (s / 8388608) 255 (by omega) (by omega)
    rw [show (s / 8388608 &&& 255) = sE s from Nat.and_two_pow_sub_one_eq_mod _ 8] at e
    rw [show ((s : Int) / 8388608) = ((s / 8388608 : Nat) : Int) from by omega]
    exact e
  have e2 : bits BinOp.and IntKind.u32 (s : Int) 2147483647 = ((s % 2147483648 : Nat) : Int) := by
    have e := u32_and_nat s 2147483647 hs (by omega)
    rw [show (s &&& 2147483647) = s % 2147483648 from Nat.and_two_pow_sub_one_eq_mod _ 31] at e
    exact e
  have hb := @halves_bounds s hs
  generalize singleV s = B at *
  cases ho : thOk B with
  | false => rw [ho] at H; exact Halves_a s B _ _ hs w hT H
  | true =>
    rw [ho] at H
    by_cases c : sE s = 255
    · exact Halves_b s B _ _ hs w hT H _ hx e1 (by rw [c]; rfl)
    · have c1 : (((sE s : Nat) : Int) != 255) = true := by simp; omega
      by_cases d : s % 2147483648 = 0
      · exact Halves_c s B _ _ hs w hT H _ hx e1 c1 _ e2 (by rw [d]; rfl)
      · obtain ⟨b1, b2⟩ := hb c d ho
        exact Halves_d s B _ _ hs w hT H _ hx e1 c1 _ e2 (by simp; omega) b1 b2
end Go.Proofs.YtpmfnhcnldoelaaDoor
