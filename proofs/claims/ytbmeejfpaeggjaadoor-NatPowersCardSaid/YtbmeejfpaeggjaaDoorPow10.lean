/- The law NatPowers. -/
import Derived.Test.YtbmeejfpaeggjaaDoorTold1
namespace Go.Proofs.YtbmeejfpaeggjaaDoor
open Go.RowKit
theorem pow10_len {c n : Nat} (hc : c ≤ 9) (h : ¬ c * 10 ^ n < 2 ^ 256) : 76 ≤ n := by
  apply Nat.le_of_not_lt
  intro hn
  apply h
  have h1 : 10 ^ n ≤ 10 ^ 75 := Nat.pow_le_pow_right (by decide) (by omega)
  have h2 : c * 10 ^ n ≤ 9 * 10 ^ 75 := Nat.mul_le_mul hc h1
  exact Nat.lt_of_le_of_lt h2 (by decide)
theorem pow10_short {c n : Nat} (hc : 1 ≤ c) (h : c * 10 ^ n < 2 ^ 256) : n ≤ 77 := by
  apply Nat.le_of_not_lt
  intro hn
  have h1 : 10 ^ 78 ≤ 10 ^ n := Nat.pow_le_pow_right (by decide) (by omega)
  have h2 : 1 * 10 ^ 78 ≤ c * 10 ^ n := Nat.mul_le_mul hc h1
  have h3 : ¬ (1 * 10 ^ 78 < 2 ^ 256) := by decide
  omega
theorem dec_pow {c : Nat} (n : Nat) (h1 : 1 ≤ c) (h9 : c ≤ 9) : Lib.decDigits (c * 10 ^ n) = UInt8.ofNat (48 + c) :: List.replicate n 48 := by
  have h48 : ∀ l : List UInt8, [UInt8.ofNat (48 + c)] ++ l = UInt8.ofNat (48 + c) :: l := fun l => rfl
  have h := padD_add c n 0 h1 (Nat.pow_pos (by decide))
  rw [Nat.add_zero, padD_zero, Lib.decDigits_one (show c < 10 from by omega), h48] at h
  with_reducible exact h
theorem decN_cons (v : Nat) (c : UInt8) (l : List UInt8) : decN v (c :: l) = decN (v * 10 + (c.toNat - 48)) l := by
  rfl
theorem decN_zeros (v n : Nat) : decN v (List.replicate n 48) = v * 10 ^ n := by
  induction n generalizing v with
  | zero => rw [Nat.pow_zero, Nat.mul_one]; rfl
  | succ n ih =>
    rw [List.replicate_succ, decN_cons, show (48 : UInt8).toNat - 48 = 0 from rfl, Nat.add_zero, ih, Nat.pow_succ', ← Nat.mul_assoc]
theorem dg_of {c : Nat} (h9 : c ≤ 9) : (UInt8.ofNat (48 + c)).toNat = 48 + c := by
  rw [UInt8.toNat_ofNat']
  omega
theorem pow_pOk {c n : Nat} (h1 : 1 ≤ c) (h9 : c ≤ 9) : pOk (UInt8.ofNat (48 + c) :: List.replicate n 48) = decide (c * 10 ^ n < 2 ^ 256) ∧ decN 0 (UInt8.ofNat (48 + c) :: List.replicate n 48) = c * 10 ^ n := by
  have e : decN 0 (UInt8.ofNat (48 + c) :: List.replicate n 48) = c * 10 ^ n := by
    rw [decN_cons, dg_of h9, decN_zeros]
    congr 1
    omega
  refine ⟨?_, e⟩
  unfold pOk
  rw [e]
  congr 1
  apply propext
  refine ⟨fun h => h.2.2.2, fun h => ⟨List.cons_ne_nil _ _, ?_, ?_, h⟩⟩
  · rintro ⟨_, h2⟩
    have h3 := congrArg UInt8.toNat (Option.some.inj h2)
    rw [dg_of h9] at h3
    have h4 : (48 : UInt8).toNat = 48 := rfl
    omega
  · rw [List.all_cons, Bool.and_eq_true]
    constructor
    · unfold isDg
      rw [dg_of h9]
      apply decide_eq_true
      omega
    · rw [List.all_replicate]
      simp [isDg]
set_option maxRecDepth 20000 in
set_option maxHeartbeats 1600000 in
theorem Pow10_walk (k d : Int) (n c : Nat) (hn : wrap64 ((IntKind.u64.wrap k).tmod 91) = (n : Int)) (hc : wrap64 (1 + wrap64 ((IntKind.u64.wrap d).tmod 9)) = (c : Int)) (n0 : (n : Int) ≤ 90) (c0 : 1 ≤ (c : Int)) (c9 : (c : Int) ≤ 9) (D : ByteArray) (hD : D.data.toList = [UInt8.ofNat (48 + c)]) (hD1 : (ByteArray.mk #[48, 49, 50, 51, 52, 53, 54, 55, 56, 57]).extract c (c + 1) = D)
    (_hD2 : (ByteArray.mk #[48, 49, 50, 51, 52, 53, 54, 55, 56, 57]).extract c ((c : Int) + 1).toNat = D) (w : World) (hT : Tabs w) :
    Calls Tryd.prog 5 #[.int .i64 k, .int .i64 d] w fun e w' => e = .returned (.bool true) ∧ Below w.heap.size w w' := by
  have T0 := Lib.hid hT
  have HD := Lib.hid hD
  have HO := Lib.hid (fun w => OfV_any c (by omega) w)
  clear hT hD
  go_enter Tryd.func5, Tryd.ntmps5
  repeat any_goals (first | (go_at_call 22; with_reducible refine (HO.out _).mono ?_; rintro e w1 ⟨rfl, hb1⟩; (first | have T1 := Lib.hid (T0.out.below hb1) | have T1 := Lib.hid (T0.out.step hb1))) | go_skip | go_guarded | go_step | go_upon | (dsimp only []))
  have B1 : BoxF (w1.alloc (.cells #[.int .u64 (lm c 0 : Nat), .int .u64 (lm c 1 : Nat), .int .u64 (lm c 2 : Nat), .int .u64 (lm c 3 : Nat)] 24)) w1.heap.size c := boxF_new
  have hW1 : Below w.heap.size w (w1.alloc (.cells #[.int .u64 (lm c 0 : Nat), .int .u64 (lm c 1 : Nat), .int .u64 (lm c 2 : Nat), .int .u64 (lm c 3 : Nat)] 24)) := by (repeat first | with_reducible exact Below.refl _ _ | with_reducible assumption | with_reducible refine Below.drew ?_ | with_reducible refine below_alloc ?_ _ | ((with_reducible refine Below.setCell ?_ ?_ _); rotate_left; (focus (first | with_reducible exact Nat.le_refl _ | (simp; done) | (simp; omega) | omega))) | (with_reducible refine below_trans ?_ (by assumption)))
  have hl1 : w.heap.size ≤ w1.heap.size := hb1.size
  clear hb1 T1 hD1 _hD2
  go_loopw [7, 9, 10] (fun s f i wr => ∃ (T : ByteArray) (j V : Nat), s = .string T ∧ f = .bool (decide (c * 10 ^ j < 2 ^ 256)) ∧ i = .int .i64 j ∧ j ≤ n ∧ T.data.toList = UInt8.ofNat (48 + c) :: List.replicate j 48 ∧ V < 2 ^ 256 ∧ (c * 10 ^ j < 2 ^ 256 → V = c * 10 ^ j) ∧ BoxF wr w1.heap.size V ∧ Below w.heap.size w wr) (fun _ _ i _ => n - (intOf i).toNat)
  case atStart =>
    refine ⟨D, 0, c, rfl, ?_, rfl, by omega, ?_, Nat.lt_of_le_of_lt (show c ≤ 9 from by omega) (by decide), fun _ => by rw [Nat.pow_zero, Nat.mul_one], B1, hW1⟩
    · rw [decide_eq_true]
      rw [Nat.pow_zero, Nat.mul_one]
      exact Nat.lt_of_le_of_lt (show c ≤ 9 from by omega) (by decide)
    · rw [HD.out]
      rfl
  case round =>
    obtain ⟨T, j, V, rfl, rfl, rfl, hj, hTl, hV, hVe, B, hW⟩ := hrel
    have hTs : T.size = j + 1 := by
      have h := congrArg List.length hTl
      rw [List.length_cons, List.length_replicate] at h
      rw [← h]
      exact Array.length_toList.symm
    have b0 := Lib.hid B
    obtain ⟨_, _, _, _, _⟩ := b0.out.all
    obtain ⟨f, hf⟩ : ∃ f, f = decide (c * 10 ^ j < 2 ^ 256) := ⟨_, rfl⟩
    rw [← hf]
    have GH := Lib.hid (And.intro hTl (And.intro hV (And.intro hVe hf)))
    clear hTl hV hVe hf B B1 hW1
    by_cases c1 : j < n
    · have hsz : ¬ 9223372036854775807 < j + 1 + 1 := by omega
      obtain ⟨U, hU⟩ : ∃ U, U = if V * 10 < 2 ^ 256 then V * 10 else 0 := ⟨_, rfl⟩
      obtain ⟨o, ho⟩ : ∃ o, o = decide (V * 10 < 2 ^ 256) := ⟨_, rfl⟩
      have MH : Hid (∀ w, Calls Tryd.prog 23 #[.agg #[.int .u64 (lm (V) 0 : Nat), .int .u64 (lm (V) 1 : Nat), .int .u64 (lm (V) 2 : Nat), .int .u64 (lm (V) 3 : Nat)], .int .u64 10] w fun e w' => e = .returned (.tuple #[.agg #[.int .u64 (lm (U) 0 : Nat), .int .u64 (lm (U) 1 : Nat), .int .u64 (lm (U) 2 : Nat), .int .u64 (lm (U) 3 : Nat)], .bool o]) ∧ Below w.heap.size w w') := Lib.hid fun w => by
        have h := MulN_any V 10 GH.out.2.1 (by decide) w
        rw [← hU, ← ho] at h
        exact h
      have G2 := Lib.hid (And.intro hU ho)
      clear hU ho
      have fin : UInt8.ofNat (48 + c) :: List.replicate (j + 1) 48 = (T ++ ⟨#[48]⟩).data.toList := by
        rw [List.replicate_succ', ← List.cons_append, ← GH.out.1]
        simp
      have hU2 : U < 2 ^ 256 := by
        rw [G2.out.1]
        split
        · assumption
        · decide
      have FH := Lib.hid (And.intro fin hU2)
      clear fin hU2
      cases f with
      | true =>
        have hfit := of_decide_eq_true GH.out.2.2.2.symm
        have hVV := GH.out.2.2.1 hfit
        have hx : c * 10 ^ (j + 1) = V * 10 := by
          rw [hVV, Nat.mul_assoc]
          rfl
        have e1 : o = decide (c * 10 ^ (j + 1) < 2 ^ 256) := by
          rw [hx]
          exact G2.out.2
        have e2 : c * 10 ^ (j + 1) < 2 ^ 256 → U = c * 10 ^ (j + 1) := by
          intro h
          rw [hx] at h ⊢
          rw [G2.out.1, if_pos h]
        have EH := Lib.hid (And.intro e1 e2)
        clear hfit hVV e1 e2 hx
        repeat any_goals (first | (go_at_call 23; with_reducible refine (MH.out _).mono ?_; rintro e w2 ⟨rfl, hb2⟩; (first | have b2 := Lib.hid (b0.out.below hb2) | have b2 := Lib.hid (b0.out.step hb2)); obtain ⟨_, _, _, _, _⟩ := b2.out.all) | go_skip | go_guarded | go_step | go_upon | (dsimp only []))
        go_roundw
        case rel => exact ⟨T ++ ⟨#[48]⟩, j + 1, U, by first | rfl | simp, by rw [← EH.out.1], by go_num, by omega, FH.out.1.symm, FH.out.2, EH.out.2, b2.out.set, by (repeat first | with_reducible exact Below.refl _ _ | with_reducible assumption | with_reducible refine Below.drew ?_ | with_reducible refine below_alloc ?_ _ | ((with_reducible refine Below.setCell ?_ ?_ _); rotate_left; (focus (first | with_reducible exact Nat.le_refl _ | (simp; done) | (simp; omega) | omega))) | (with_reducible refine below_trans ?_ (by assumption)))⟩
        case measure => first | (simp [intOf]; done) | (simp [intOf]; omega)
      | false =>
        have hfit := of_decide_eq_false GH.out.2.2.2.symm
        have hbig : ¬ c * 10 ^ (j + 1) < 2 ^ 256 := by
          intro h
          apply hfit
          have hx : c * 10 ^ (j + 1) = c * 10 ^ j * 10 := by
            rw [Nat.mul_assoc]
            rfl
          rw [hx] at h
          omega
        have e1 : false = decide (c * 10 ^ (j + 1) < 2 ^ 256) := (decide_eq_false hbig).symm
        have EH := Lib.hid (And.intro e1 hbig)
        clear hfit hbig e1
        repeat any_goals (first | (go_at_call 23; with_reducible refine (MH.out _).mono ?_; rintro e w2 ⟨rfl, hb2⟩; (first | have b2 := Lib.hid (b0.out.below hb2) | have b2 := Lib.hid (b0.out.step hb2)); obtain ⟨_, _, _, _, _⟩ := b2.out.all) | go_skip | go_guarded | go_step | go_upon | (dsimp only []))
        go_roundw
        case rel => exact ⟨T ++ ⟨#[48]⟩, j + 1, U, by first | rfl | simp, by rw [← EH.out.1], by go_num, by omega, FH.out.1.symm, FH.out.2, fun h => absurd h EH.out.2, b2.out.set, by (repeat first | with_reducible exact Below.refl _ _ | with_reducible assumption | with_reducible refine Below.drew ?_ | with_reducible refine below_alloc ?_ _ | ((with_reducible refine Below.setCell ?_ ?_ _); rotate_left; (focus (first | with_reducible exact Nat.le_refl _ | (simp; done) | (simp; omega) | omega))) | (with_reducible refine below_trans ?_ (by assumption)))⟩
        case measure => first | (simp [intOf]; done) | (simp [intOf]; omega)
    · have hjn : j = n := by omega
      subst hjn
      have PH := Lib.hid (fun w => ParN_any T (by omega) w)
      have hpk := pow_pOk (n := j) (show 1 ≤ c from by omega) (show c ≤ 9 from by omega)
      rw [GH.out.1, hpk.1, ← GH.out.2.2.2] at PH
      have T2 := Lib.hid (T0.out.below hW)
      cases f with
      | true =>
        have hfit := of_decide_eq_true GH.out.2.2.2.symm
        have hVV := GH.out.2.2.1 hfit
        have hpv : pV (UInt8.ofNat (48 + c) :: List.replicate j 48) = V := by
          rw [pV_yes (by rw [hpk.1]; exact decide_eq_true hfit), hpk.2, hVV]
        rw [hpv] at PH
        have hPr : decS V = T := by
          unfold decS
          rw [hVV, dec_pow j (by omega) (by omega), ← GH.out.1]
        have RH := Lib.hid (fun w hT => PrN_any V GH.out.2.1 w hT)
        rw [hPr] at RH
        have h77 : (j : Int) ≤ 77 := by
          have := pow10_short (show 1 ≤ c from by omega) hfit
          omega
        clear hfit hVV hpv hPr hpk
        repeat any_goals (first | (go_at_call 18; with_reducible refine (PH.out _).mono ?_; rintro e w2 ⟨rfl, hb2⟩; (first | have b2 := Lib.hid (b0.out.below hb2) | have b2 := Lib.hid (b0.out.step hb2)); obtain ⟨_, _, _, _, _⟩ := b2.out.all; (first | have T3 := Lib.hid (T2.out.below hb2) | have T3 := Lib.hid (T2.out.step hb2))) | (go_at_call 12; with_reducible refine (told_any _ (T3.out.alloc _)).mono ?_; rintro e w3 ⟨rfl, hb3⟩; have p3 := Lib.hid (box_hb hb3); obtain ⟨_, _, _, _, _⟩ := p3.out.all; (first | have b3 := Lib.hid (b2.out.below hb3) | have b3 := Lib.hid (b2.out.step hb3)); obtain ⟨_, _, _, _, _⟩ := b3.out.all; (first | have T4 := Lib.hid (T3.out.below hb3) | have T4 := Lib.hid (T3.out.step hb3))) | (go_at_call 20; with_reducible refine (RH.out _ T4.out.t10).mono ?_; rintro e w4 ⟨rfl, hb4⟩; (first | have p4 := Lib.hid (p3.out.below hb4) | have p4 := Lib.hid (p3.out.step hb4)); obtain ⟨_, _, _, _, _⟩ := p4.out.all; (first | have b4 := Lib.hid (b3.out.below hb4) | have b4 := Lib.hid (b3.out.step hb4)); obtain ⟨_, _, _, _, _⟩ := b4.out.all) | go_skip | go_guarded | go_step | go_upon | (dsimp only []))
        go_ret
        exact ⟨by simp, by (repeat first | with_reducible exact Below.refl _ _ | with_reducible assumption | with_reducible refine Below.drew ?_ | with_reducible refine below_alloc ?_ _ | ((with_reducible refine Below.setCell ?_ ?_ _); rotate_left; (focus (first | with_reducible exact Nat.le_refl _ | (simp; done) | (simp; omega) | omega))) | (with_reducible refine below_trans ?_ (by assumption)))⟩
      | false =>
        have h76 : 76 ≤ (j : Int) := by
          have := pow10_len (show c ≤ 9 from by omega) (of_decide_eq_false GH.out.2.2.2.symm)
          omega
        clear hpk
        repeat any_goals (first | (go_at_call 18; with_reducible refine (PH.out _).mono ?_; rintro e w2 ⟨rfl, hb2⟩; (first | have b2 := Lib.hid (b0.out.below hb2) | have b2 := Lib.hid (b0.out.step hb2)); obtain ⟨_, _, _, _, _⟩ := b2.out.all; (first | have T3 := Lib.hid (T2.out.below hb2) | have T3 := Lib.hid (T2.out.step hb2))) | (go_at_call 12; with_reducible refine (told_any _ (T3.out.alloc _)).mono ?_; rintro e w3 ⟨rfl, hb3⟩; (first | have b3 := Lib.hid (b2.out.below hb3) | have b3 := Lib.hid (b2.out.step hb3)); obtain ⟨_, _, _, _, _⟩ := b3.out.all; (first | have T4 := Lib.hid (T3.out.below hb3) | have T4 := Lib.hid (T3.out.step hb3))) | go_skip | go_guarded | go_step | go_upon | (dsimp only []))
        go_ret
        exact ⟨by simp, by (repeat first | with_reducible exact Below.refl _ _ | with_reducible assumption | with_reducible refine Below.drew ?_ | with_reducible refine below_alloc ?_ _ | ((with_reducible refine Below.setCell ?_ ?_ _); rotate_left; (focus (first | with_reducible exact Nat.le_refl _ | (simp; done) | (simp; omega) | omega))) | (with_reducible refine below_trans ?_ (by assumption)))⟩
/-- **NatPowers answers true.** -/
theorem Pow10_any (k d : Int) (_hk0 : -9223372036854775808 ≤ k) (_hk1 : k < 9223372036854775808) (_hd0 : -9223372036854775808 ≤ d) (_hd1 : d < 9223372036854775808) (w : World) (hT : Tabs w) :
    Calls Tryd.prog 5 #[.int .i64 k, .int .i64 d] w fun e w' => e = .returned (.bool true) ∧ Below w.heap.size w w' := by
  obtain ⟨n, hn, hn2⟩ : ∃ n : Nat, (IntKind.u64.wrap k).tmod 91 = (n : Int) ∧ (n : Int) ≤ 90 := by
    rw [IntKind.wrap_u64, Int.tmod_eq_emod_of_nonneg (Int.emod_nonneg _ (by decide))]
    exact ⟨(k % 18446744073709551616 % 91).toNat, by omega, by omega⟩
  obtain ⟨e, he, he2⟩ : ∃ e : Nat, (IntKind.u64.wrap d).tmod 9 = (e : Int) ∧ (e : Int) ≤ 8 := by
    rw [IntKind.wrap_u64, Int.tmod_eq_emod_of_nonneg (Int.emod_nonneg _ (by decide))]
    exact ⟨(d % 18446744073709551616 % 9).toNat, by omega, by omega⟩
  have h1 : wrap64 ((IntKind.u64.wrap k).tmod 91) = (n : Int) := by
    rw [hn]
    unfold wrap64
    omega
  have h2 : wrap64 (1 + wrap64 ((IntKind.u64.wrap d).tmod 9)) = ((e + 1 : Nat) : Int) := by
    rw [he]
    unfold wrap64
    omega
  have hD1 : (ByteArray.mk #[48, 49, 50, 51, 52, 53, 54, 55, 56, 57]).extract (e + 1) (e + 1 + 1) = ⟨#[UInt8.ofNat (48 + (e + 1))]⟩ := by
    have : e = 0 ∨ e = 1 ∨ e = 2 ∨ e = 3 ∨ e = 4 ∨ e = 5 ∨ e = 6 ∨ e = 7 ∨ e = 8 := by omega
    rcases this with rfl | rfl | rfl | rfl | rfl | rfl | rfl | rfl | rfl <;> decide +kernel
  refine Pow10_walk k d n (e + 1) h1 h2 hn2 (by omega) (by omega) ⟨#[UInt8.ofNat (48 + (e + 1))]⟩ rfl hD1 ?_ w hT
  rw [show (((e + 1 : Nat) : Int) + 1).toNat = e + 1 + 1 from by omega]
  exact hD1
end Go.Proofs.YtbmeejfpaeggjaaDoor
