/- The law WholeSteps. IBOX -/
import Derived.Test.YtbakgmkkebnhkaaDoorWhP
namespace Go.Proofs.YtbakgmkkebnhkaaDoor
open Go.RowKit
/-- what the law asks of the program -/
structure SpC (n : Bool) (V : Nat) (np : Bool) (Vp : Nat) (nm : Bool) (Vm : Nat) (p r x : Bool) (S : ByteArray) : Prop where
  c1 : ∀ w : World, Calls Tryd.prog 18 #[.agg #[.bool (n ), .int .u64 (lm ( V) 0 : Nat), .int .u64 (lm ( V) 1 : Nat), .int .u64 (lm ( V) 2 : Nat), .int .u64 (lm ( V) 3 : Nat)]] w fun e w' => e = .returned (.bool true) ∧ Below w.heap.size w w'
  c2 : ∀ w : World, Calls Tryd.prog 24 #[.agg #[.bool (n ), .int .u64 (lm ( V) 0 : Nat), .int .u64 (lm ( V) 1 : Nat), .int .u64 (lm ( V) 2 : Nat), .int .u64 (lm ( V) 3 : Nat)]] w fun e w' => e = .returned (.tuple #[.agg #[.bool (np ), .int .u64 (lm ( Vp) 0 : Nat), .int .u64 (lm ( Vp) 1 : Nat), .int .u64 (lm ( Vp) 2 : Nat), .int .u64 (lm ( Vp) 3 : Nat)], .bool p]) ∧ Below w.heap.size w w'
  c3 : p = true → ∀ w : World, Calls Tryd.prog 25 #[.agg #[.bool (np ), .int .u64 (lm ( Vp) 0 : Nat), .int .u64 (lm ( Vp) 1 : Nat), .int .u64 (lm ( Vp) 2 : Nat), .int .u64 (lm ( Vp) 3 : Nat)]] w fun e w' => e = .returned (.tuple #[.agg #[.bool (n ), .int .u64 (lm ( V) 0 : Nat), .int .u64 (lm ( V) 1 : Nat), .int .u64 (lm ( V) 2 : Nat), .int .u64 (lm ( V) 3 : Nat)], .bool true]) ∧ Below w.heap.size w w'
  c4 : p = true → ∀ w : World, Calls Tryd.prog 19 #[.agg #[.bool (np ), .int .u64 (lm ( Vp) 0 : Nat), .int .u64 (lm ( Vp) 1 : Nat), .int .u64 (lm ( Vp) 2 : Nat), .int .u64 (lm ( Vp) 3 : Nat)], .agg #[.bool (n ), .int .u64 (lm ( V) 0 : Nat), .int .u64 (lm ( V) 1 : Nat), .int .u64 (lm ( V) 2 : Nat), .int .u64 (lm ( V) 3 : Nat)]] w fun e w' => e = .returned (.int .i64 1) ∧ Below w.heap.size w w'
  c5 : p = true → ∀ w : World, Calls Tryd.prog 19 #[.agg #[.bool (n ), .int .u64 (lm ( V) 0 : Nat), .int .u64 (lm ( V) 1 : Nat), .int .u64 (lm ( V) 2 : Nat), .int .u64 (lm ( V) 3 : Nat)], .agg #[.bool (np ), .int .u64 (lm ( Vp) 0 : Nat), .int .u64 (lm ( Vp) 1 : Nat), .int .u64 (lm ( Vp) 2 : Nat), .int .u64 (lm ( Vp) 3 : Nat)]] w fun e w' => e = .returned (.int .i64 (-1)) ∧ Below w.heap.size w w'
  c6 : p = true → ∀ w : World, Calls Tryd.prog 18 #[.agg #[.bool (np ), .int .u64 (lm ( Vp) 0 : Nat), .int .u64 (lm ( Vp) 1 : Nat), .int .u64 (lm ( Vp) 2 : Nat), .int .u64 (lm ( Vp) 3 : Nat)]] w fun e w' => e = .returned (.bool true) ∧ Below w.heap.size w w'
  c7 : ∀ w : World, Calls Tryd.prog 25 #[.agg #[.bool (n ), .int .u64 (lm ( V) 0 : Nat), .int .u64 (lm ( V) 1 : Nat), .int .u64 (lm ( V) 2 : Nat), .int .u64 (lm ( V) 3 : Nat)]] w fun e w' => e = .returned (.tuple #[.agg #[.bool (nm ), .int .u64 (lm ( Vm) 0 : Nat), .int .u64 (lm ( Vm) 1 : Nat), .int .u64 (lm ( Vm) 2 : Nat), .int .u64 (lm ( Vm) 3 : Nat)], .bool r]) ∧ Below w.heap.size w w'
  c8 : r = true → ∀ w : World, Calls Tryd.prog 24 #[.agg #[.bool (nm ), .int .u64 (lm ( Vm) 0 : Nat), .int .u64 (lm ( Vm) 1 : Nat), .int .u64 (lm ( Vm) 2 : Nat), .int .u64 (lm ( Vm) 3 : Nat)]] w fun e w' => e = .returned (.tuple #[.agg #[.bool (n ), .int .u64 (lm ( V) 0 : Nat), .int .u64 (lm ( V) 1 : Nat), .int .u64 (lm ( V) 2 : Nat), .int .u64 (lm ( V) 3 : Nat)], .bool true]) ∧ Below w.heap.size w w'
  c9 : r = true → ∀ w : World, Calls Tryd.prog 19 #[.agg #[.bool (nm ), .int .u64 (lm ( Vm) 0 : Nat), .int .u64 (lm ( Vm) 1 : Nat), .int .u64 (lm ( Vm) 2 : Nat), .int .u64 (lm ( Vm) 3 : Nat)], .agg #[.bool (n ), .int .u64 (lm ( V) 0 : Nat), .int .u64 (lm ( V) 1 : Nat), .int .u64 (lm ( V) 2 : Nat), .int .u64 (lm ( V) 3 : Nat)]] w fun e w' => e = .returned (.int .i64 (-1)) ∧ Below w.heap.size w w'
  c10 : r = true → ∀ w : World, Calls Tryd.prog 18 #[.agg #[.bool (nm ), .int .u64 (lm ( Vm) 0 : Nat), .int .u64 (lm ( Vm) 1 : Nat), .int .u64 (lm ( Vm) 2 : Nat), .int .u64 (lm ( Vm) 3 : Nat)]] w fun e w' => e = .returned (.bool true) ∧ Below w.heap.size w w'
  c11 : ∀ w : World, Tab w → Calls Tryd.prog 17 #[.agg #[.bool (n ), .int .u64 (lm ( V) 0 : Nat), .int .u64 (lm ( V) 1 : Nat), .int .u64 (lm ( V) 2 : Nat), .int .u64 (lm ( V) 3 : Nat)]] w fun e w' => e = .returned (.bool x) ∧ Below w.heap.size w w'
  c12 : ∀ w : World, Tabs w → Calls Tryd.prog 14 #[.agg #[.bool (n ), .int .u64 (lm ( V) 0 : Nat), .int .u64 (lm ( V) 1 : Nat), .int .u64 (lm ( V) 2 : Nat), .int .u64 (lm ( V) 3 : Nat)]] w fun e w' => e = .returned (.string S) ∧ Below w.heap.size w w'
set_option maxRecDepth 20000 in
set_option maxHeartbeats 6400000 in
theorem Steps_no (n : Bool) (V : Nat) (w : World) (hT : Tabs w) (M : Hid (∀ w : World, Calls Tryd.prog 18 #[.agg #[.bool (n ), .int .u64 (lm ( V) 0 : Nat), .int .u64 (lm ( V) 1 : Nat), .int .u64 (lm ( V) 2 : Nat), .int .u64 (lm ( V) 3 : Nat)]] w fun e w' => e = .returned (.bool false) ∧ Below w.heap.size w w')) (P : Hid (∀ w : World, Tabs w → Calls Tryd.prog 14 #[.agg #[.bool (n ), .int .u64 (lm ( V) 0 : Nat), .int .u64 (lm ( V) 1 : Nat), .int .u64 (lm ( V) 2 : Nat), .int .u64 (lm ( V) 3 : Nat)]] w fun e w' => e = .returned (.string ⟨#[]⟩) ∧ Below w.heap.size w w')) :
    Calls Tryd.prog 7 #[.agg #[.bool (n ), .int .u64 (lm ( V) 0 : Nat), .int .u64 (lm ( V) 1 : Nat), .int .u64 (lm ( V) 2 : Nat), .int .u64 (lm ( V) 3 : Nat)]] w fun e w' => e = .returned (.bool true) ∧ Below w.heap.size w w' := by
  have T0 := Lib.hid hT
  clear hT
  go_enter Tryd.func7, Tryd.ntmps7
  repeat any_goals (first | (go_at_call 18; with_reducible refine (M.out _).mono ?_; rintro e w1 ⟨rfl, hb1⟩; (first | have a1 := Lib.hid (box_hb hb1) | have a1 := Lib.hid (ibox_hb hb1)); obtain ⟨_, _, _, _, _⟩ := a1.out.all) | (go_at_call 11; with_reducible refine (told_any _ (T0.out.below (by (repeat first | with_reducible exact Below.refl _ _ | with_reducible assumption | with_reducible refine Below.drew ?_ | with_reducible refine below_alloc ?_ _ | ((with_reducible refine Below.setCell ?_ ?_ _); rotate_left; (focus (first | with_reducible exact Nat.le_refl _ | (simp; done) | (simp; omega) | omega))) | (with_reducible refine below_trans ?_ (by assumption)))))).mono ?_; rintro e w2 ⟨rfl, hb2⟩; have a2 := Lib.hid (a1.out.below hb2); obtain ⟨_, _, _, _, _⟩ := a2.out.all) | (go_at_call 14; with_reducible refine (P.out _ (T0.out.below (by (repeat first | with_reducible exact Below.refl _ _ | with_reducible assumption | with_reducible refine Below.drew ?_ | with_reducible refine below_alloc ?_ _ | ((with_reducible refine Below.setCell ?_ ?_ _); rotate_left; (focus (first | with_reducible exact Nat.le_refl _ | (simp; done) | (simp; omega) | omega))) | (with_reducible refine below_trans ?_ (by assumption)))))).mono ?_; rintro e w3 ⟨rfl, hb3⟩; (first | have a3 := Lib.hid (a2.out.below hb3) | have a3 := Lib.hid (a2.out.step hb3) | have a3 := Lib.hid (a2.out.step2 hb3)); obtain ⟨_, _, _, _, _⟩ := a3.out.all) | go_skip | go_guarded | go_step | go_upon | (dsimp only []))
  go_ret
  exact ⟨by simp, by (repeat first | with_reducible exact Below.refl _ _ | with_reducible assumption | with_reducible refine Below.drew ?_ | with_reducible refine below_alloc ?_ _ | ((with_reducible refine Below.setCell ?_ ?_ _); rotate_left; (focus (first | with_reducible exact Nat.le_refl _ | (simp; done) | (simp; omega) | omega))) | (with_reducible refine below_trans ?_ (by assumption)))⟩
set_option maxRecDepth 20000 in
set_option maxHeartbeats 6400000 in
theorem Steps_walk (n : Bool) (V : Nat) (np : Bool) (Vp : Nat) (nm : Bool) (Vm : Nat) (p r x : Bool) (S : ByteArray) (w : World) (hT : Tabs w) (C : Hid (SpC n V np Vp nm Vm p r x S)) (hS : (S.size : Int) ≤ 79) (h : p = true ∧ r = true ∨ p = true ∧ r = false ∨ p = false ∧ r = true ∧ x = false) :
    Calls Tryd.prog 7 #[.agg #[.bool (n ), .int .u64 (lm ( V) 0 : Nat), .int .u64 (lm ( V) 1 : Nat), .int .u64 (lm ( V) 2 : Nat), .int .u64 (lm ( V) 3 : Nat)]] w fun e w' => e = .returned (.bool true) ∧ Below w.heap.size w w' := by
  have T0 := Lib.hid hT
  clear hT
  rcases h with ⟨rfl, rfl⟩ | ⟨rfl, rfl⟩ | ⟨rfl, rfl, rfl⟩
  all_goals (
    go_enter Tryd.func7, Tryd.ntmps7
    (repeat any_goals (first | (go_at_call 18; with_reducible refine (C.out.c1 _).mono ?_; rintro e w1 ⟨rfl, hb1⟩; (first | have a1 := Lib.hid (box_hb hb1) | have a1 := Lib.hid (ibox_hb hb1)); obtain ⟨_, _, _, _, _⟩ := a1.out.all) | (go_at_call 24; with_reducible refine (C.out.c2 _).mono ?_; rintro e w2 ⟨rfl, hb2⟩; (first | have a2 := Lib.hid (a1.out.below hb2) | have a2 := Lib.hid (a1.out.step hb2) | have a2 := Lib.hid (a1.out.step2 hb2)); obtain ⟨_, _, _, _, _⟩ := a2.out.all) | (go_at_call 25; with_reducible refine (C.out.c3 rfl _).mono ?_; rintro e w3 ⟨rfl, hb3⟩; (first | have n3 := Lib.hid (box_hb hb3) | have n3 := Lib.hid (ibox_hb hb3)); obtain ⟨_, _, _, _, _⟩ := n3.out.all; (first | have a3 := Lib.hid (a2.out.below hb3) | have a3 := Lib.hid (a2.out.step hb3) | have a3 := Lib.hid (a2.out.step2 hb3)); obtain ⟨_, _, _, _, _⟩ := a3.out.all) | (go_at_call 19; with_reducible refine (C.out.c4 rfl _).mono ?_; rintro e w4 ⟨rfl, hb4⟩; (first | have n4 := Lib.hid (n3.out.below hb4) | have n4 := Lib.hid (n3.out.step hb4) | have n4 := Lib.hid (n3.out.step2 hb4)); obtain ⟨_, _, _, _, _⟩ := n4.out.all; (first | have a4 := Lib.hid (a3.out.below hb4) | have a4 := Lib.hid (a3.out.step hb4) | have a4 := Lib.hid (a3.out.step2 hb4)); obtain ⟨_, _, _, _, _⟩ := a4.out.all) | (go_at_call 19; with_reducible refine (C.out.c5 rfl _).mono ?_; rintro e w5 ⟨rfl, hb5⟩; (first | have n5 := Lib.hid (n4.out.below hb5) | have n5 := Lib.hid (n4.out.step hb5) | have n5 := Lib.hid (n4.out.step2 hb5)); obtain ⟨_, _, _, _, _⟩ := n5.out.all; (first | have a5 := Lib.hid (a4.out.below hb5) | have a5 := Lib.hid (a4.out.step hb5) | have a5 := Lib.hid (a4.out.step2 hb5)); obtain ⟨_, _, _, _, _⟩ := a5.out.all) | (go_at_call 18; with_reducible refine (C.out.c6 rfl _).mono ?_; rintro e w6 ⟨rfl, hb6⟩; (first | have n6 := Lib.hid (n5.out.below hb6) | have n6 := Lib.hid (n5.out.step hb6) | have n6 := Lib.hid (n5.out.step2 hb6)); obtain ⟨_, _, _, _, _⟩ := n6.out.all; (first | have a6 := Lib.hid (a5.out.below hb6) | have a6 := Lib.hid (a5.out.step hb6) | have a6 := Lib.hid (a5.out.step2 hb6)); obtain ⟨_, _, _, _, _⟩ := a6.out.all) | (go_at_call 25; with_reducible refine (C.out.c7 _).mono ?_; rintro e w7 ⟨rfl, hb7⟩; (first | have a7 := Lib.hid (a6.out.below hb7) | have a7 := Lib.hid (a6.out.step hb7) | have a7 := Lib.hid (a6.out.step2 hb7)); obtain ⟨_, _, _, _, _⟩ := a7.out.all) | (go_at_call 25; with_reducible refine (C.out.c7 _).mono ?_; rintro e w7 ⟨rfl, hb7⟩; (first | have a7 := Lib.hid (a2.out.below hb7) | have a7 := Lib.hid (a2.out.step hb7) | have a7 := Lib.hid (a2.out.step2 hb7)); obtain ⟨_, _, _, _, _⟩ := a7.out.all) | (go_at_call 24; with_reducible refine (C.out.c8 rfl _).mono ?_; rintro e w8 ⟨rfl, hb8⟩; (first | have m8 := Lib.hid (box_hb hb8) | have m8 := Lib.hid (ibox_hb hb8)); obtain ⟨_, _, _, _, _⟩ := m8.out.all; (first | have a8 := Lib.hid (a7.out.below hb8) | have a8 := Lib.hid (a7.out.step hb8) | have a8 := Lib.hid (a7.out.step2 hb8)); obtain ⟨_, _, _, _, _⟩ := a8.out.all) | (go_at_call 19; with_reducible refine (C.out.c9 rfl _).mono ?_; rintro e w9 ⟨rfl, hb9⟩; (first | have m9 := Lib.hid (m8.out.below hb9) | have m9 := Lib.hid (m8.out.step hb9) | have m9 := Lib.hid (m8.out.step2 hb9)); obtain ⟨_, _, _, _, _⟩ := m9.out.all; (first | have a9 := Lib.hid (a8.out.below hb9) | have a9 := Lib.hid (a8.out.step hb9) | have a9 := Lib.hid (a8.out.step2 hb9)); obtain ⟨_, _, _, _, _⟩ := a9.out.all) | (go_at_call 18; with_reducible refine (C.out.c10 rfl _).mono ?_; rintro e wa ⟨rfl, hba⟩; (first | have aa := Lib.hid (a9.out.below hba) | have aa := Lib.hid (a9.out.step hba) | have aa := Lib.hid (a9.out.step2 hba)); obtain ⟨_, _, _, _, _⟩ := aa.out.all) | (go_at_call 11; with_reducible refine (told_any _ (T0.out.below (by (repeat first | with_reducible exact Below.refl _ _ | with_reducible assumption | with_reducible refine Below.drew ?_ | with_reducible refine below_alloc ?_ _ | ((with_reducible refine Below.setCell ?_ ?_ _); rotate_left; (focus (first | with_reducible exact Nat.le_refl _ | (simp; done) | (simp; omega) | omega))) | (with_reducible refine below_trans ?_ (by assumption)))))).mono ?_; rintro e wb ⟨rfl, hbb⟩; (first | have ab := Lib.hid (aa.out.below hbb) | have ab := Lib.hid (a7.out.step hbb)); obtain ⟨_, _, _, _, _⟩ := ab.out.all) | (go_at_call 17; with_reducible refine (C.out.c11 _ (T0.out.below (by (repeat first | with_reducible exact Below.refl _ _ | with_reducible assumption | with_reducible refine Below.drew ?_ | with_reducible refine below_alloc ?_ _ | ((with_reducible refine Below.setCell ?_ ?_ _); rotate_left; (focus (first | with_reducible exact Nat.le_refl _ | (simp; done) | (simp; omega) | omega))) | (with_reducible refine below_trans ?_ (by assumption))))).t).mono ?_; rintro e wc ⟨rfl, hbc⟩; (first | have ac := Lib.hid (ab.out.below hbc) | have ac := Lib.hid (ab.out.step hbc) | have ac := Lib.hid (ab.out.step2 hbc)); obtain ⟨_, _, _, _, _⟩ := ac.out.all) | (go_at_call 14; with_reducible refine (C.out.c12 _ (T0.out.below (by (repeat first | with_reducible exact Below.refl _ _ | with_reducible assumption | with_reducible refine Below.drew ?_ | with_reducible refine below_alloc ?_ _ | ((with_reducible refine Below.setCell ?_ ?_ _); rotate_left; (focus (first | with_reducible exact Nat.le_refl _ | (simp; done) | (simp; omega) | omega))) | (with_reducible refine below_trans ?_ (by assumption)))))).mono ?_; rintro e wd ⟨rfl, hbd⟩; (first | have ad := Lib.hid (ac.out.below hbd) | have ad := Lib.hid (ac.out.step hbd) | have ad := Lib.hid (ac.out.step2 hbd)); obtain ⟨_, _, _, _, _⟩ := ad.out.all) | (go_at_call 14; with_reducible refine (C.out.c12 _ (T0.out.below (by (repeat first | with_reducible exact Below.refl _ _ | with_reducible assumption | with_reducible refine Below.drew ?_ | with_reducible refine below_alloc ?_ _ | ((with_reducible refine Below.setCell ?_ ?_ _); rotate_left; (focus (first | with_reducible exact Nat.le_refl _ | (simp; done) | (simp; omega) | omega))) | (with_reducible refine below_trans ?_ (by assumption)))))).mono ?_; rintro e wd ⟨rfl, hbd⟩; (first | have ad := Lib.hid (ab.out.below hbd) | have ad := Lib.hid (ab.out.step hbd) | have ad := Lib.hid (ab.out.step2 hbd)); obtain ⟨_, _, _, _, _⟩ := ad.out.all) | go_skip | go_guarded | go_step | go_upon | (dsimp only [])))
    go_ret
    exact ⟨by simp, by (repeat first | with_reducible exact Below.refl _ _ | with_reducible assumption | with_reducible refine Below.drew ?_ | with_reducible refine below_alloc ?_ _ | ((with_reducible refine Below.setCell ?_ ?_ _); rotate_left; (focus (first | with_reducible exact Nat.le_refl _ | (simp; done) | (simp; omega) | omega))) | (with_reducible refine below_trans ?_ (by assumption)))⟩)
theorem prI_size (n : Bool) (V : Nat) (hV : V < 2 ^ 256) : (prI n V).size ≤ 79 := by
  have hl : (Lib.decDigits V).length ≤ 78 := decDigits_len_le (k := 77) (Nat.lt_of_lt_of_le hV (by decide))
  have hs : (decS V).size ≤ 78 := by
    show (Lib.decDigits V).toArray.size ≤ 78
    rw [List.size_toArray]
    omega
  unfold prI
  split
  · split
    · rw [ByteArray.size_append]
      have e : (ByteArray.mk #[45]).size = 1 := rfl
      omega
    · omega
  · have e : (ByteArray.mk #[]).size = 0 := rfl
    omega
/-- **WholeSteps.** -/
theorem Steps_any (n : Bool) (V : Nat) (hV : V < 2 ^ 256) (w : World) (hT : Tabs w) :
    Calls Tryd.prog 7 #[.agg #[.bool (n ), .int .u64 (lm ( V) 0 : Nat), .int .u64 (lm ( V) 1 : Nat), .int .u64 (lm ( V) 2 : Nat), .int .u64 (lm ( V) 3 : Nat)]] w fun e w' => e = .returned (.bool true) ∧ Below w.heap.size w w' := by
  have c1 := May_any n V hV
  have c12 := Print_any n V hV
  cases hm : mayI n V with
  | false =>
    rw [hm] at c1
    have e : prI n V = ⟨#[]⟩ := by unfold prI; rw [if_neg (by rw [hm]; exact Bool.false_ne_true)]
    rw [e] at c12
    exact Steps_no n V w hT (Lib.hid c1) (Lib.hid c12)
  | true =>
    rw [hm] at c1
    obtain ⟨z, hz⟩ : ∃ z, z = zI n V := ⟨_, rfl⟩
    have e1 : n = sg z := by rw [hz, sg_zI hm]
    have e2 : V = ab z := by rw [hz, ab_zI]
    rw [e1, e2] at c1 c12 ⊢
    have hz2 : ab z < 2 ^ 256 := by rw [← e2]; exact hV
    have c2 := Next_any (sg z) (ab z) hz2
    have c7 := Prev_any (sg z) (ab z) hz2
    have c11 := Exact_any (sg z) (ab z) hz2
    rw [exI_z] at c11
    have hS : ((prI (sg z) (ab z)).size : Int) ≤ 79 := by have := prI_size (sg z) (ab z) hz2; omega
    have ok : ∀ d : Int, nxOk d (sg z) (ab z) = decide (ab (z + d) < 2 ^ 256) := fun d => by
      unfold nxOk
      rw [may_z, z_z, Bool.true_and]
    have gp : nxOk 1 (sg z) (ab z) = true → nx 1 (sg z) (ab z) = z + 1 ∧ ab (z + 1) < 2 ^ 256 := fun h => by
      have h2 : ab (z + 1) < 2 ^ 256 := of_decide_eq_true ((ok 1).symm.trans h)
      exact ⟨(nx_z h2).2, h2⟩
    have gm : nxOk (-1) (sg z) (ab z) = true → nx (-1) (sg z) (ab z) = z + -1 ∧ ab (z + -1) < 2 ^ 256 := fun h => by
      have h2 : ab (z + -1) < 2 ^ 256 := of_decide_eq_true ((ok (-1)).symm.trans h)
      exact ⟨(nx_z h2).2, h2⟩
    refine Steps_walk (sg z) (ab z) _ _ _ _ _ _ _ _ w hT (Lib.hid (SpC.mk c1 c2 (fun h w => ?_) (fun h w => ?_) (fun h w => ?_) (fun h w => ?_) c7 (fun h w => ?_) (fun h w => ?_) (fun h w => ?_) c11 c12)) hS ?_
    · obtain ⟨a, b⟩ := gp h
      rw [a]
      have k := Prev_any (sg (z + 1)) (ab (z + 1)) b w
      have e : z + 1 + -1 = z := by omega
      have q := @nx_z (-1) (z + 1) (by rw [e]; exact hz2)
      rw [e] at q
      rw [q.1, q.2] at k
      exact k
    · obtain ⟨a, b⟩ := gp h
      rw [a]
      have k := Cmp_any (sg (z + 1)) (ab (z + 1)) b (sg z) (ab z) hz2 w
      rw [cmpI_z, show cmpZ (z + 1) z = 1 from by unfold cmpZ; rw [if_neg (by omega), if_neg (by omega)]] at k
      exact k
    · obtain ⟨a, b⟩ := gp h
      rw [a]
      have k := Cmp_any (sg z) (ab z) hz2 (sg (z + 1)) (ab (z + 1)) b w
      rw [cmpI_z, show cmpZ z (z + 1) = -1 from if_pos (by omega)] at k
      exact k
    · obtain ⟨a, b⟩ := gp h
      rw [a]
      have k := May_any (sg (z + 1)) (ab (z + 1)) b w
      rw [may_z] at k
      exact k
    · obtain ⟨a, b⟩ := gm h
      rw [a]
      have k := Next_any (sg (z + -1)) (ab (z + -1)) b w
      have e : z + -1 + 1 = z := by omega
      have q := @nx_z 1 (z + -1) (by rw [e]; exact hz2)
      rw [e] at q
      rw [q.1, q.2] at k
      exact k
    · obtain ⟨a, b⟩ := gm h
      rw [a]
      have k := Cmp_any (sg (z + -1)) (ab (z + -1)) b (sg z) (ab z) hz2 w
      rw [cmpI_z, show cmpZ (z + -1) z = -1 from if_pos (by omega)] at k
      exact k
    · obtain ⟨a, b⟩ := gm h
      rw [a]
      have k := May_any (sg (z + -1)) (ab (z + -1)) b w
      rw [may_z] at k
      exact k
    · rw [ok 1, ok (-1)]
      by_cases a : ab (z + 1) < 2 ^ 256
      · by_cases b : ab (z + -1) < 2 ^ 256
        · exact .inl ⟨decide_eq_true a, decide_eq_true b⟩
        · exact .inr (.inl ⟨decide_eq_true a, decide_eq_false b⟩)
      · refine .inr (.inr ⟨decide_eq_false a, decide_eq_true ?_, ?_⟩)
        · unfold ab at a hz2 ⊢
          omega
        · rw [← Bool.not_eq_true]
          intro h
          have k := exZ_max h hz2
          have k2 := @ab_step z 1 (.inl rfl)
          omega
end Go.Proofs.YtbakgmkkebnhkaaDoor
