/- The law NatTexts. -/
import Derived.Test.YtbmeejfpaeggjaaDoorTold1
import Derived.Test.YtbmeejfpaeggjaaDoorDx
import Derived.Test.YtbmeejfpaeggjaaDoorDz
namespace Go.Proofs.YtbmeejfpaeggjaaDoor
open Go.RowKit
theorem dg48 {r : Nat} (h : r < 10) : (UInt8.ofNat (48 + r)).toNat = 48 + r := by
  rw [UInt8.toNat_ofNat']
  omega
theorem dec_all (n : Nat) : (Lib.decDigits n).all isDg = true ∧ decN 0 (Lib.decDigits n) = n ∧ (0 < n → (Lib.decDigits n).head? ≠ some 48) := by
  induction n using Nat.strongRecOn with
  | _ n ih =>
    have hd : ∀ r, r < 10 → isDg (UInt8.ofNat (48 + r)) = true := fun r hr => by
      unfold isDg
      rw [dg48 hr]
      exact decide_eq_true (by omega)
    have hs : ∀ v r, r < 10 → decN v [UInt8.ofNat (48 + r)] = v * 10 + r := fun v r hr => by
      show v * 10 + ((UInt8.ofNat (48 + r)).toNat - 48) = _
      rw [dg48 hr]
      omega
    by_cases h : n < 10
    · rw [Lib.decDigits_one h]
      refine ⟨by rw [List.all_cons, hd n h]; rfl, by rw [hs 0 n h]; omega, fun h0 he => ?_⟩
      have h1 := congrArg UInt8.toNat (Option.some.inj he)
      rw [dg48 h] at h1
      have h2 : (48 : UInt8).toNat = 48 := rfl
      omega
    · obtain ⟨i1, i2, i3⟩ := ih (n / 10) (by omega)
      have e : Lib.decDigits n = Lib.decDigits (n / 10) ++ [UInt8.ofNat (48 + n % 10)] := by rw [Lib.decDigits, dif_neg h]
      rw [e]
      refine ⟨by rw [List.all_append, i1, List.all_cons, hd _ (by omega)]; rfl, by rw [decN_append, i2, hs _ _ (by omega)]; omega, fun _ he => i3 (by omega) ?_⟩
      rw [List.head?_append] at he
      cases h2 : (Lib.decDigits (n / 10)).head? with
      | none =>
        have h3 := decDigits_pos (n / 10)
        rw [List.head?_eq_none_iff] at h2
        rw [h2] at h3
        simp at h3
      | some c =>
        rw [h2] at he
        simpa using he
theorem dec_pOk {A : Nat} (hA : A < 2 ^ 256) : pOk (Lib.decDigits A) = true := by
  obtain ⟨h1, h2, h3⟩ := dec_all A
  unfold pOk
  refine decide_eq_true ⟨fun h => ?_, fun h => ?_, h1, by rw [h2]; exact hA⟩
  · have := decDigits_pos A
    rw [h] at this
    simp at this
  · by_cases c : 0 < A
    · exact h3 c h.2
    · have hA0 : A = 0 := by omega
      rw [hA0, Lib.decDigits_one (by decide)] at h
      simp at h
theorem zero_pOk (A : Nat) : pOk (48 :: Lib.decDigits A) = false := by
  unfold pOk
  refine decide_eq_false fun h => h.2.1 ⟨?_, rfl⟩
  have := decDigits_pos A
  rw [List.length_cons]
  omega
set_option maxRecDepth 20000 in
set_option maxHeartbeats 400000 in
theorem Texts_long (A : Nat) (s : ByteArray) (n : Int) (hn : (s.size : Int) = n) (h : 120 < n) (w : World) (hT : Tabs w) :
    Calls Tryd.prog 4 #[.agg #[.int .u64 (lm (A) 0 : Nat), .int .u64 (lm (A) 1 : Nat), .int .u64 (lm (A) 2 : Nat), .int .u64 (lm (A) 3 : Nat)], .string s] w fun e w' => e = .returned (.bool true) ∧ Below w.heap.size w w' := by
  have T0 := Lib.hid hT
  clear hT
  go_enter Tryd.func4, Tryd.ntmps4
  repeat any_goals (first | (go_at_call 12; with_reducible refine (told_any _ (T0.out.alloc _)).mono ?_; rintro e w1 ⟨rfl, hb1⟩) | go_skip | go_guarded | go_step | go_upon | (dsimp only []))
  go_ret
  exact ⟨by simp, by (repeat first | with_reducible exact Below.refl _ _ | with_reducible assumption | with_reducible refine Below.drew ?_ | with_reducible refine below_alloc ?_ _ | ((with_reducible refine Below.setCell ?_ ?_ _); rotate_left; (focus (first | with_reducible exact Nat.le_refl _ | (simp; done) | (simp; omega) | omega))) | (with_reducible refine below_trans ?_ (by assumption)))⟩
set_option maxRecDepth 20000 in
set_option maxHeartbeats 1600000 in
theorem Texts_walk (A P : Nat) (o : Bool) (s T : ByteArray) (n K : Nat) (hn : (s.size : Int) = n) (h : ¬ 120 < (n : Int)) (hK : T.size = K) (hK2 : K ≤ 100)
    (C1 : Hid (∀ w : World, Calls Tryd.prog 18 #[.string s] w fun e w' => e = .returned (.tuple #[.agg #[.int .u64 (lm (P) 0 : Nat), .int .u64 (lm (P) 1 : Nat), .int .u64 (lm (P) 2 : Nat), .int .u64 (lm (P) 3 : Nat)], .bool o]) ∧ Below w.heap.size w w'))
    (C2 : Hid (∀ w : World, Calls Tryd.prog 19 #[.string s] w fun e w' => e = .returned (.tuple #[.agg #[.int .u64 (lm (P) 0 : Nat), .int .u64 (lm (P) 1 : Nat), .int .u64 (lm (P) 2 : Nat), .int .u64 (lm (P) 3 : Nat)], .bool o]) ∧ Below w.heap.size w w'))
    (C3 : Hid (∀ w : World, Tabs w → Calls Tryd.prog 20 #[.agg #[.int .u64 (lm (A) 0 : Nat), .int .u64 (lm (A) 1 : Nat), .int .u64 (lm (A) 2 : Nat), .int .u64 (lm (A) 3 : Nat)]] w fun e w' => e = .returned (.string T) ∧ Below w.heap.size w w'))
    (C4 : Hid (∀ w : World, Calls Tryd.prog 18 #[.string T] w fun e w' => e = .returned (.tuple #[.agg #[.int .u64 (lm (A) 0 : Nat), .int .u64 (lm (A) 1 : Nat), .int .u64 (lm (A) 2 : Nat), .int .u64 (lm (A) 3 : Nat)], .bool true]) ∧ Below w.heap.size w w'))
    (C5 : Hid (∀ w : World, Calls Tryd.prog 18 #[.string (⟨#[48]⟩ ++ T)] w fun e w' => e = .returned (.tuple #[.agg #[.int .u64 (lm (0) 0 : Nat), .int .u64 (lm (0) 1 : Nat), .int .u64 (lm (0) 2 : Nat), .int .u64 (lm (0) 3 : Nat)], .bool false]) ∧ Below w.heap.size w w'))
    (C6 : Hid (∀ w : World, Calls Tryd.prog 15 #[.agg #[.int .u64 (lm (A) 0 : Nat), .int .u64 (lm (A) 1 : Nat), .int .u64 (lm (A) 2 : Nat), .int .u64 (lm (A) 3 : Nat)]] w fun e w' => ∃ v, e = .returned v ∧ IsD w' v A ∧ Below w.heap.size w w'))
    (C7 : Hid (∀ (v : Value) (w : World) (_ : IsD w v A), Calls Tryd.prog 21 #[v] w fun e w' => e = .returned (.string T) ∧ Below w.heap.size w w')) (w : World) (hT : Tabs w) :
    Calls Tryd.prog 4 #[.agg #[.int .u64 (lm (A) 0 : Nat), .int .u64 (lm (A) 1 : Nat), .int .u64 (lm (A) 2 : Nat), .int .u64 (lm (A) 3 : Nat)], .string s] w fun e w' => e = .returned (.bool true) ∧ Below w.heap.size w w' := by
  have T0 := Lib.hid hT
  have hsz : ¬ 9223372036854775807 < 1 + K := by omega
  have hz := lm_z (V := 0) (by decide)
  rw [show ((0 : Nat) == 0) = true from rfl] at hz
  clear hT
  go_enter Tryd.func4, Tryd.ntmps4
  go_upto_region 1 with fail
  have X0 := Lib.hid (@box_new w A 24)
  have T1 := Lib.hid (T0.out.alloc (.cells #[.int .u64 (lm A 0 : Nat), .int .u64 (lm A 1 : Nat), .int .u64 (lm A 2 : Nat), .int .u64 (lm A 3 : Nat)] 24))
  repeat any_goals (first | (go_at_call 18; with_reducible refine (C1.out _).mono ?_; rintro e w1 ⟨rfl, hb1⟩; (first | have X1 := Lib.hid (X0.out.below hb1) | have X1 := Lib.hid (X0.out.step hb1)); obtain ⟨_, _, _, _, _⟩ := X1.out.all; (first | have T2 := Lib.hid (T1.out.below hb1) | have T2 := Lib.hid (T1.out.step hb1))) | (go_at_call 19; with_reducible refine (C2.out _).mono ?_; rintro e w2 ⟨rfl, hb2⟩; have p2 := Lib.hid (box_hb hb2); obtain ⟨_, _, _, _, _⟩ := p2.out.all; (first | have X2 := Lib.hid (X1.out.below hb2) | have X2 := Lib.hid (X1.out.step hb2)); obtain ⟨_, _, _, _, _⟩ := X2.out.all; (first | have T3 := Lib.hid (T2.out.below hb2) | have T3 := Lib.hid (T2.out.step hb2))) | (go_at_call 20; with_reducible refine (C3.out _ (T3.out.alloc _)).mono ?_; rintro e w3 ⟨rfl, hb3⟩; have q3 := Lib.hid (box_hb hb3); obtain ⟨_, _, _, _, _⟩ := q3.out.all; (first | have p3 := Lib.hid (p2.out.below hb3) | have p3 := Lib.hid (p2.out.step hb3)); obtain ⟨_, _, _, _, _⟩ := p3.out.all; (first | have X3 := Lib.hid (X2.out.below hb3) | have X3 := Lib.hid (X2.out.step hb3)); obtain ⟨_, _, _, _, _⟩ := X3.out.all; (first | have T4 := Lib.hid (T3.out.below hb3) | have T4 := Lib.hid (T3.out.step hb3))) | (go_at_call 18; with_reducible refine (C4.out _).mono ?_; rintro e w4 ⟨rfl, hb4⟩; (first | have q4 := Lib.hid (q3.out.below hb4) | have q4 := Lib.hid (q3.out.step hb4)); obtain ⟨_, _, _, _, _⟩ := q4.out.all; (first | have p4 := Lib.hid (p3.out.below hb4) | have p4 := Lib.hid (p3.out.step hb4)); obtain ⟨_, _, _, _, _⟩ := p4.out.all; (first | have X4 := Lib.hid (X3.out.below hb4) | have X4 := Lib.hid (X3.out.step hb4)); obtain ⟨_, _, _, _, _⟩ := X4.out.all; (first | have T5 := Lib.hid (T4.out.below hb4) | have T5 := Lib.hid (T4.out.step hb4))) | (go_at_call 18; with_reducible refine (C5.out _).mono ?_; rintro e w5 ⟨rfl, hb5⟩; have r5 := Lib.hid (box_hb hb5); obtain ⟨_, _, _, _, _⟩ := r5.out.all; (first | have q5 := Lib.hid (q4.out.below hb5) | have q5 := Lib.hid (q4.out.step hb5)); obtain ⟨_, _, _, _, _⟩ := q5.out.all; (first | have p5 := Lib.hid (p4.out.below hb5) | have p5 := Lib.hid (p4.out.step hb5)); obtain ⟨_, _, _, _, _⟩ := p5.out.all; (first | have X5 := Lib.hid (X4.out.below hb5) | have X5 := Lib.hid (X4.out.step hb5)); obtain ⟨_, _, _, _, _⟩ := X5.out.all; (first | have T6 := Lib.hid (T5.out.below hb5) | have T6 := Lib.hid (T5.out.step hb5))) | (go_at_call 12; with_reducible refine (told_any _ (T6.out.alloc _)).mono ?_; rintro e w6 ⟨rfl, hb6⟩; have s6 := Lib.hid (box_hb hb6); obtain ⟨_, _, _, _, _⟩ := s6.out.all; (first | have r6 := Lib.hid (r5.out.below hb6) | have r6 := Lib.hid (r5.out.step hb6)); obtain ⟨_, _, _, _, _⟩ := r6.out.all; (first | have q6 := Lib.hid (q5.out.below hb6) | have q6 := Lib.hid (q5.out.step hb6)); obtain ⟨_, _, _, _, _⟩ := q6.out.all; (first | have p6 := Lib.hid (p5.out.below hb6) | have p6 := Lib.hid (p5.out.step hb6)); obtain ⟨_, _, _, _, _⟩ := p6.out.all; (first | have X6 := Lib.hid (X5.out.below hb6) | have X6 := Lib.hid (X5.out.step hb6)); obtain ⟨_, _, _, _, _⟩ := X6.out.all) | (go_at_call 15; with_reducible refine (C6.out _).mono ?_; rintro e w7 ⟨v7, rfl, hv7, hb7⟩; (first | have s7 := Lib.hid (s6.out.below hb7) | have s7 := Lib.hid (s6.out.step hb7)); obtain ⟨_, _, _, _, _⟩ := s7.out.all; (first | have r7 := Lib.hid (r6.out.below hb7) | have r7 := Lib.hid (r6.out.step hb7)); obtain ⟨_, _, _, _, _⟩ := r7.out.all; (first | have X7 := Lib.hid (X6.out.below hb7) | have X7 := Lib.hid (X6.out.step hb7)); obtain ⟨_, _, _, _, _⟩ := X7.out.all) | (go_at_call 21; with_reducible refine (C7.out _ _ hv7).mono ?_; rintro e w8 ⟨rfl, hb8⟩; (first | have s8 := Lib.hid (s7.out.below hb8) | have s8 := Lib.hid (s7.out.step hb8)); obtain ⟨_, _, _, _, _⟩ := s8.out.all; (first | have r8 := Lib.hid (r7.out.below hb8) | have r8 := Lib.hid (r7.out.step hb8)); obtain ⟨_, _, _, _, _⟩ := r8.out.all; (first | have X8 := Lib.hid (X7.out.below hb8) | have X8 := Lib.hid (X7.out.step hb8)); obtain ⟨_, _, _, _, _⟩ := X8.out.all) | go_skip | go_guarded | go_step | go_upon | (dsimp only []))
  go_ret
  exact ⟨by simp, by (repeat first | with_reducible exact Below.refl _ _ | with_reducible assumption | with_reducible refine Below.drew ?_ | with_reducible refine below_alloc ?_ _ | ((with_reducible refine Below.setCell ?_ ?_ _); rotate_left; (focus (first | with_reducible exact Nat.le_refl _ | (simp; done) | (simp; omega) | omega))) | (with_reducible refine below_trans ?_ (by assumption)))⟩
/-- **NatTexts answers true.** -/
theorem Texts_any (A : Nat) (s : ByteArray) (hA : A < 2 ^ 256) (_hs : s.size ≤ maxLen) (w : World) (hT : Tabs w) :
    Calls Tryd.prog 4 #[.agg #[.int .u64 (lm (A) 0 : Nat), .int .u64 (lm (A) 1 : Nat), .int .u64 (lm (A) 2 : Nat), .int .u64 (lm (A) 3 : Nat)], .string s] w fun e w' => e = .returned (.bool true) ∧ Below w.heap.size w w' := by
  by_cases c : 120 < s.size
  · exact Texts_long A s s.size rfl (by omega) w hT
  · have hl : (Lib.decDigits A).length ≤ 78 := decDigits_len_le (k := 77) (Nat.lt_of_lt_of_le hA (by decide))
    have hTs : (decS A).size = (Lib.decDigits A).length := List.size_toArray
    have hTl : (decS A).data.toList = Lib.decDigits A := by
      unfold decS
      simp
    refine Texts_walk A _ _ s (decS A) s.size (decS A).size rfl (by omega) rfl (by omega) (Lib.hid fun w => ParN_any s (by omega) w) (Lib.hid fun w => DParse_any s (by omega) w) (Lib.hid fun w h => PrN_any A hA w h.t10) (Lib.hid fun w => ?_) (Lib.hid fun w => ?_) (Lib.hid fun w => DOf_any A hA w) (Lib.hid fun v w h => DPrint_any v A w h hA) w hT
    · have h := ParN_any (decS A) (by omega) w
      rw [hTl, pV_yes (dec_pOk hA), dec_pOk hA, (dec_all A).2.1] at h
      exact h
    · have hz : (ByteArray.mk #[48] ++ decS A).data.toList = 48 :: Lib.decDigits A := by
        unfold decS
        rw [ByteArray.mk_append_mk]
        simp
      have h := ParN_any (⟨#[48]⟩ ++ decS A) (by rw [ByteArray.size_append, hTs]; show 1 + _ ≤ _; omega) w
      rw [hz, pV_no (zero_pOk A), zero_pOk A] at h
      exact h
end Go.Proofs.YtbmeejfpaeggjaaDoor
