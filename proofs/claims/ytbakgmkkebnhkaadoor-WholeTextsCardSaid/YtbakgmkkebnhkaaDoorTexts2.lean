/- The law WholeTexts. IBOX -/
import Derived.Test.YtbakgmkkebnhkaaDoorRhT
namespace Go.Proofs.YtbakgmkkebnhkaaDoor
open Go.RowKit
theorem dg48 {r : Nat} (h : r < 10) : (UInt8.ofNat (48 + r)).toNat = 48 + r := by
  rw [UInt8.toNat_ofNat']
  omega
theorem dec_all (n : Nat) : (Lib.decDigits n).all isDg = true ∧ decN 0 (Lib.decDigits n) = n ∧ (0 < n → (Lib.decDigits n).head? ≠ some 48) := by
  induction n using Nat.strongRecOn with
  | _ n ih =>
    have hd : ∀ r, r < 10 → isDg (UInt8.ofNat (48 + r)) = true := fun r hr => by
      unfold isDg
      rw [dg48 hr]
      exact decide_eq_true (by omega)
    have hs : ∀ v r, r < 10 → decN v [UInt8.ofNat (48 + r)] = v * 10 + r := fun v r hr => by
      show v * 10 + ((UInt8.ofNat (48 + r)).toNat - 48) = _
      rw [dg48 hr]
      omega
    by_cases h : n < 10
    · rw [Lib.decDigits_one h]
      refine ⟨by rw [List.all_cons, hd n h]; rfl, by rw [hs 0 n h]; omega, fun h0 he => ?_⟩
      have h1 := congrArg UInt8.toNat (Option.some.inj he)
      rw [dg48 h] at h1
      have h2 : (48 : UInt8).toNat = 48 := rfl
      omega
    · obtain ⟨i1, i2, i3⟩ := ih (n / 10) (by omega)
      have e : Lib.decDigits n = Lib.decDigits (n / 10) ++ [UInt8.ofNat (48 + n % 10)] := by rw [Lib.decDigits, dif_neg h]
      rw [e]
      refine ⟨by rw [List.all_append, i1, List.all_cons, hd _ (by omega)]; rfl, by rw [decN_append, i2, hs _ _ (by omega)]; omega, fun _ he => i3 (by omega) ?_⟩
      rw [List.head?_append] at he
      cases h2 : (Lib.decDigits (n / 10)).head? with
      | none =>
        have h3 := decDigits_pos (n / 10)
        rw [List.head?_eq_none_iff] at h2
        rw [h2] at h3
        simp at h3
      | some c =>
        rw [h2] at he
        simpa using he
theorem dec_pOk {A : Nat} (hA : A < 2 ^ 256) : pOk (Lib.decDigits A) = true := by
  obtain ⟨h1, h2, h3⟩ := dec_all A
  unfold pOk
  refine decide_eq_true ⟨fun h => ?_, fun h => ?_, h1, by rw [h2]; exact hA⟩
  · have := decDigits_pos A
    rw [h] at this
    simp at this
  · by_cases c : 0 < A
    · exact h3 c h.2
    · have hA0 : A = 0 := by omega
      rw [hA0, Lib.decDigits_one (by decide)] at h
      simp at h
/-- a number's digits are read as the number -/
theorem pr_back {n : Bool} {V : Nat} (hV : V < 2 ^ 256) : paOk (prI n V).data.toList = mayI n V ∧ (mayI n V = true → paS (prI n V).data.toList = n ∧ paV (prI n V).data.toList = V) := by
  have hp := dec_pOk hV
  obtain ⟨d1, d2, d3⟩ := dec_all V
  have hv : pV (Lib.decDigits V) = V := by rw [pV_yes hp, d2]
  have hdl : (decS V).data.toList = Lib.decDigits V := rfl
  cases hm : mayI n V with
  | false =>
    have e : prI n V = ⟨#[]⟩ := by unfold prI; rw [if_neg (by rw [hm]; exact Bool.false_ne_true)]
    rw [e]
    exact ⟨rfl, fun h => absurd h Bool.false_ne_true⟩
  | true =>
    cases n with
    | true =>
      have hV0 := may_true.1 hm
      have e : (prI true V).data.toList = 45 :: Lib.decDigits V := by
        unfold prI
        rw [if_pos hm, if_pos rfl, ByteArray.data_append, Array.toList_append, hdl]
        rfl
      rw [e]
      have e1 : paOk (45 :: Lib.decDigits V) = (pOk (Lib.decDigits V) && !(pV (Lib.decDigits V) == 0)) := rfl
      have e2 : paOk (45 :: Lib.decDigits V) = true := by
        rw [e1, hp, hv, show (V == 0) = false from by simpa using hV0]
        rfl
      refine ⟨e2, fun _ => ⟨?_, ?_⟩⟩
      · have e3 : paS (45 :: Lib.decDigits V) = paOk (45 :: Lib.decDigits V) := rfl
        rw [e3, e2]
      · have e3 : paV (45 :: Lib.decDigits V) = pV (Lib.decDigits V) := if_pos e2
        rw [e3, hv]
    | false =>
      have e : (prI false V).data.toList = Lib.decDigits V := by
        unfold prI
        rw [if_pos hm, if_neg Bool.false_ne_true, hdl]
      rw [e]
      have hh : ¬ (Lib.decDigits V).head? = some 45 := by
        intro h
        cases hl : Lib.decDigits V with
        | nil => rw [hl] at h; exact absurd h (by simp)
        | cons c l =>
          rw [hl] at h d1
          have hc : c = 45 := by simpa using h
          rw [List.all_cons, Bool.and_eq_true] at d1
          have := (of_decide_eq_true d1.1).1
          rw [hc] at this
          exact absurd this (by decide)
      have e0 : paL (Lib.decDigits V) = Lib.decDigits V := if_neg hh
      have en : paN (Lib.decDigits V) = false := decide_eq_false hh
      have e1 : paOk (Lib.decDigits V) = true := by unfold paOk; rw [e0, en, hp]; rfl
      refine ⟨e1, fun _ => ⟨?_, ?_⟩⟩
      · unfold paS
        rw [en]
        rfl
      · unfold paV
        rw [if_pos e1, e0, hv]
/-- what the law asks of the program, and of the document -/
structure TxC (n : Bool) (V : Nat) (s t : ByteArray) (ns : Bool) (Vs : Nat) (os : Bool) (nb : Bool) (Vb : Nat) (m : Bool) : Prop where
  c1 : ∀ w : World, Calls Tryd.prog 12 #[.string s] w fun e w' => e = .returned (.tuple #[.agg #[.bool (ns ), .int .u64 (lm ( Vs) 0 : Nat), .int .u64 (lm ( Vs) 1 : Nat), .int .u64 (lm ( Vs) 2 : Nat), .int .u64 (lm ( Vs) 3 : Nat)], .bool os]) ∧ Below w.heap.size w w'
  c2 : ∀ w : World, Calls Tryd.prog 13 #[.string s] w fun e w' => e = .returned (.tuple #[.agg #[.bool (ns ), .int .u64 (lm ( Vs) 0 : Nat), .int .u64 (lm ( Vs) 1 : Nat), .int .u64 (lm ( Vs) 2 : Nat), .int .u64 (lm ( Vs) 3 : Nat)], .bool os]) ∧ Below w.heap.size w w'
  c3 : ∀ w : World, Tabs w → Calls Tryd.prog 14 #[.agg #[.bool (n ), .int .u64 (lm ( V) 0 : Nat), .int .u64 (lm ( V) 1 : Nat), .int .u64 (lm ( V) 2 : Nat), .int .u64 (lm ( V) 3 : Nat)]] w fun e w' => e = .returned (.string t) ∧ Below w.heap.size w w'
  c4 : ∀ w : World, Calls Tryd.prog 12 #[.string t] w fun e w' => e = .returned (.tuple #[.agg #[.bool (nb ), .int .u64 (lm ( Vb) 0 : Nat), .int .u64 (lm ( Vb) 1 : Nat), .int .u64 (lm ( Vb) 2 : Nat), .int .u64 (lm ( Vb) 3 : Nat)], .bool m]) ∧ Below w.heap.size w w'
  c5 : ∀ w : World, Calls Tryd.prog 15 #[.agg #[.bool (n ), .int .u64 (lm ( V) 0 : Nat), .int .u64 (lm ( V) 1 : Nat), .int .u64 (lm ( V) 2 : Nat), .int .u64 (lm ( V) 3 : Nat)]] w fun e w' => e = .returned (.string t) ∧ Below w.heap.size w w'
  c6 : ∀ w : World, Calls Tryd.prog 16 #[.agg #[.bool (n ), .int .u64 (lm ( V) 0 : Nat), .int .u64 (lm ( V) 1 : Nat), .int .u64 (lm ( V) 2 : Nat), .int .u64 (lm ( V) 3 : Nat)]] w fun e w' => e = .returned (.bool m) ∧ Below w.heap.size w w'
set_option maxRecDepth 20000 in
set_option maxHeartbeats 3200000 in
theorem Texts2_long (n : Bool) (V : Nat) (s : ByteArray) (w : World) (hT : Tabs w) (h : 120 < (s.size : Int)) :
    Calls Tryd.prog 3 #[.agg #[.bool (n ), .int .u64 (lm ( V) 0 : Nat), .int .u64 (lm ( V) 1 : Nat), .int .u64 (lm ( V) 2 : Nat), .int .u64 (lm ( V) 3 : Nat)], .string s] w fun e w' => e = .returned (.bool true) ∧ Below w.heap.size w w' := by
  have T0 := Lib.hid hT
  clear hT
  go_enter Tryd.func3, Tryd.ntmps3
  repeat any_goals (first | (go_at_call 11; with_reducible refine (told_any _ (T0.out.below (by (repeat first | with_reducible exact Below.refl _ _ | with_reducible assumption | with_reducible refine Below.drew ?_ | with_reducible refine below_alloc ?_ _ | ((with_reducible refine Below.setCell ?_ ?_ _); rotate_left; (focus (first | with_reducible exact Nat.le_refl _ | (simp; done) | (simp; omega) | omega))) | (with_reducible refine below_trans ?_ (by assumption)))))).mono ?_; rintro e w4 ⟨rfl, hb4⟩) | go_skip | go_guarded | go_step | go_upon | (dsimp only []))
  go_ret
  exact ⟨by simp, by (repeat first | with_reducible exact Below.refl _ _ | with_reducible assumption | with_reducible refine Below.drew ?_ | with_reducible refine below_alloc ?_ _ | ((with_reducible refine Below.setCell ?_ ?_ _); rotate_left; (focus (first | with_reducible exact Nat.le_refl _ | (simp; done) | (simp; omega) | omega))) | (with_reducible refine below_trans ?_ (by assumption)))⟩
set_option maxRecDepth 20000 in
set_option maxHeartbeats 6400000 in
theorem Texts2_walk (n : Bool) (V : Nat) (s t : ByteArray) (ns : Bool) (Vs : Nat) (os : Bool) (nb : Bool) (Vb : Nat) (m : Bool) (w : World) (hT : Tabs w) (C : Hid (TxC n V s t ns Vs os nb Vb m)) (h : (s.size : Int) ≤ 120) (hm : m = false ∨ m = true ∧ nb = n ∧ Vb = V) :
    Calls Tryd.prog 3 #[.agg #[.bool (n ), .int .u64 (lm ( V) 0 : Nat), .int .u64 (lm ( V) 1 : Nat), .int .u64 (lm ( V) 2 : Nat), .int .u64 (lm ( V) 3 : Nat)], .string s] w fun e w' => e = .returned (.bool true) ∧ Below w.heap.size w w' := by
  have T0 := Lib.hid hT
  clear hT
  rcases hm with rfl | ⟨rfl, rfl, rfl⟩
  all_goals (
    go_enter Tryd.func3, Tryd.ntmps3
    (repeat any_goals (first | (go_at_call 12; with_reducible refine (C.out.c1 _).mono ?_; rintro e w1 ⟨rfl, hb1⟩; (first | have a1 := Lib.hid (box_hb hb1) | have a1 := Lib.hid (ibox_hb hb1)); obtain ⟨_, _, _, _, _⟩ := a1.out.all) | (go_at_call 13; with_reducible refine (C.out.c2 _).mono ?_; rintro e w2 ⟨rfl, hb2⟩; (first | have n2 := Lib.hid (box_hb hb2) | have n2 := Lib.hid (ibox_hb hb2)); obtain ⟨_, _, _, _, _⟩ := n2.out.all; (first | have a2 := Lib.hid (a1.out.below hb2) | have a2 := Lib.hid (a1.out.step hb2) | have a2 := Lib.hid (a1.out.step2 hb2)); obtain ⟨_, _, _, _, _⟩ := a2.out.all) | (go_at_call 14; with_reducible refine (C.out.c3 _ (T0.out.below (by (repeat first | with_reducible exact Below.refl _ _ | with_reducible assumption | with_reducible refine Below.drew ?_ | with_reducible refine below_alloc ?_ _ | ((with_reducible refine Below.setCell ?_ ?_ _); rotate_left; (focus (first | with_reducible exact Nat.le_refl _ | (simp; done) | (simp; omega) | omega))) | (with_reducible refine below_trans ?_ (by assumption)))))).mono ?_; rintro e w3 ⟨rfl, hb3⟩; (first | have m3 := Lib.hid (box_hb hb3) | have m3 := Lib.hid (ibox_hb hb3)); obtain ⟨_, _, _, _, _⟩ := m3.out.all; (first | have n3 := Lib.hid (n2.out.below hb3) | have n3 := Lib.hid (n2.out.step hb3) | have n3 := Lib.hid (n2.out.step2 hb3)); obtain ⟨_, _, _, _, _⟩ := n3.out.all; (first | have a3 := Lib.hid (a2.out.below hb3) | have a3 := Lib.hid (a2.out.step hb3) | have a3 := Lib.hid (a2.out.step2 hb3)); obtain ⟨_, _, _, _, _⟩ := a3.out.all) | (go_at_call 12; with_reducible refine (C.out.c4 _).mono ?_; rintro e w4 ⟨rfl, hb4⟩; (first | have m4 := Lib.hid (m3.out.below hb4) | have m4 := Lib.hid (m3.out.step hb4) | have m4 := Lib.hid (m3.out.step2 hb4)); obtain ⟨_, _, _, _, _⟩ := m4.out.all; (first | have n4 := Lib.hid (n3.out.below hb4) | have n4 := Lib.hid (n3.out.step hb4) | have n4 := Lib.hid (n3.out.step2 hb4)); obtain ⟨_, _, _, _, _⟩ := n4.out.all; (first | have a4 := Lib.hid (a3.out.below hb4) | have a4 := Lib.hid (a3.out.step hb4) | have a4 := Lib.hid (a3.out.step2 hb4)); obtain ⟨_, _, _, _, _⟩ := a4.out.all) | (go_at_call 11; with_reducible refine (told_any _ (T0.out.below (by (repeat first | with_reducible exact Below.refl _ _ | with_reducible assumption | with_reducible refine Below.drew ?_ | with_reducible refine below_alloc ?_ _ | ((with_reducible refine Below.setCell ?_ ?_ _); rotate_left; (focus (first | with_reducible exact Nat.le_refl _ | (simp; done) | (simp; omega) | omega))) | (with_reducible refine below_trans ?_ (by assumption)))))).mono ?_; rintro e w5 ⟨rfl, hb5⟩; have b5 := Lib.hid (ibox_hb hb5); have a5 := Lib.hid (a4.out.step hb5); have n5 := Lib.hid (n4.out.step hb5); have m5 := Lib.hid (m4.out.step hb5); obtain ⟨_, _, _, _, _⟩ := a5.out.all; obtain ⟨_, _, _, _, _⟩ := b5.out.all; obtain ⟨_, _, _, _, _⟩ := n5.out.all; obtain ⟨_, _, _, _, _⟩ := m5.out.all) | (go_at_call 15; with_reducible refine (C.out.c5 _).mono ?_; rintro e w6 ⟨rfl, hb6⟩; (first | have b6 := Lib.hid (b5.out.below hb6) | have b6 := Lib.hid (b5.out.step hb6) | have b6 := Lib.hid (b5.out.step2 hb6)); obtain ⟨_, _, _, _, _⟩ := b6.out.all; (first | have a6 := Lib.hid (a5.out.below hb6) | have a6 := Lib.hid (a5.out.step hb6) | have a6 := Lib.hid (a5.out.step2 hb6)); obtain ⟨_, _, _, _, _⟩ := a6.out.all) | (go_at_call 16; with_reducible refine (C.out.c6 _).mono ?_; rintro e w7 ⟨rfl, hb7⟩; (first | have b7 := Lib.hid (b6.out.below hb7) | have b7 := Lib.hid (b6.out.step hb7) | have b7 := Lib.hid (b6.out.step2 hb7)); obtain ⟨_, _, _, _, _⟩ := b7.out.all; (first | have a7 := Lib.hid (a6.out.below hb7) | have a7 := Lib.hid (a6.out.step hb7) | have a7 := Lib.hid (a6.out.step2 hb7)); obtain ⟨_, _, _, _, _⟩ := a7.out.all) | go_skip | go_guarded | go_step | go_upon | (dsimp only [])))
    go_ret
    exact ⟨by simp, by (repeat first | with_reducible exact Below.refl _ _ | with_reducible assumption | with_reducible refine Below.drew ?_ | with_reducible refine below_alloc ?_ _ | ((with_reducible refine Below.setCell ?_ ?_ _); rotate_left; (focus (first | with_reducible exact Nat.le_refl _ | (simp; done) | (simp; omega) | omega))) | (with_reducible refine below_trans ?_ (by assumption)))⟩)
/-- **WholeTexts.** -/
theorem Texts2_any (n : Bool) (V : Nat) (s : ByteArray) (hV : V < 2 ^ 256) (_hs : s.size ≤ maxLen) (w : World) (hT : Tabs w) :
    Calls Tryd.prog 3 #[.agg #[.bool (n ), .int .u64 (lm ( V) 0 : Nat), .int .u64 (lm ( V) 1 : Nat), .int .u64 (lm ( V) 2 : Nat), .int .u64 (lm ( V) 3 : Nat)], .string s] w fun e w' => e = .returned (.bool true) ∧ Below w.heap.size w w' := by
  by_cases h : 120 < (s.size : Int)
  · exact Texts2_long n V s w hT h
  · have hl : (Lib.decDigits V).length ≤ 78 := decDigits_len_le (k := 77) (Nat.lt_of_lt_of_le hV (by decide))
    have hs : (decS V).size ≤ 78 := by
      show (Lib.decDigits V).toArray.size ≤ 78
      rw [List.size_toArray]
      omega
    have hz : (prI n V).size ≤ 1000000 := by
      unfold prI
      split
      · split
        · rw [ByteArray.size_append]
          have e : (ByteArray.mk #[45]).size = 1 := rfl
          omega
        · omega
      · have e : (ByteArray.mk #[]).size = 0 := rfl
        omega
    obtain ⟨p1, p2⟩ := @pr_back n V hV
    have c4 := Parse_any (prI n V) hz
    rw [p1] at c4
    refine Texts2_walk n V s (prI n V) _ _ _ _ _ _ w hT (Lib.hid (TxC.mk (Parse_any s (by omega)) (RParse_any s (by omega)) (Print_any n V hV) c4 (RPrint_any n V hV) (RMayI_any n V hV))) (by omega) ?_
    cases hm : mayI n V with
    | false => exact .inl rfl
    | true => exact .inr ⟨rfl, p2 hm⟩
end Go.Proofs.YtbakgmkkebnhkaaDoor
