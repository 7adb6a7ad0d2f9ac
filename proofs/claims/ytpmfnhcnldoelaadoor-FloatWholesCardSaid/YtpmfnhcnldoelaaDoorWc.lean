/- Contracts: OfWhole of package float; Exact, OfWhole of the document's answer. -/
import Derived.Test.YtpmfnhcnldoelaaDoorWb
import Derived.Test.YtpmfnhcnldoelaaDoorRf
namespace Go.Proofs.YtpmfnhcnldoelaaDoor
open Go.RowKit
/-- the float of an exact whole number -/
def ofV (neg : Bool) (V : Nat) : Nat := if exactI neg V = true ∧ V ≠ 0 then (if neg = true then 9223372036854775808 else 0) + encF Ieee.double (V / 2 ^ tz V) (tz V) else 0
theorem exact_bl {neg : Bool} {V : Nat} (h : exactI neg V = true) (h0 : V ≠ 0) : bl (V / 2 ^ tz V) ≤ 53 := by
  obtain ⟨_, _, hb⟩ := odd_split (Nat.pos_of_ne_zero h0)
  unfold exactI at h
  simp [h0] at h
  omega
theorem Low_one (q : Nat) (h : q < 18446744073709551616) (w : World) : Calls Tryd.prog 52 #[.agg #[.int .u64 (lm (q) 0 : Nat), .int .u64 (lm (q) 1 : Nat), .int .u64 (lm (q) 2 : Nat), .int .u64 (lm (q) 3 : Nat)]] w fun e w' => e = .returned (.tuple #[.int .u64 (q : Nat), .bool true]) ∧ Below w.heap.size w w' := by
  have k := Low_any (lm q 0) (lm q 1) (lm q 2) (lm q 3) w
  have l0 : lm q 0 = q := by rw [lm0]; exact Nat.mod_eq_of_lt h
  have l1 : lm q 1 = 0 := by unfold lm; rw [Nat.div_eq_of_lt h]
  have l2 : lm q 2 = 0 := by unfold lm; rw [Nat.div_eq_of_lt (Nat.lt_trans h (by decide))]
  have l3 : lm q 3 = 0 := by unfold lm; rw [Nat.div_eq_of_lt (Nat.lt_trans h (by decide))]
  rw [l0, l1, l2, l3] at k ⊢
  have e1 : oneLimb 0 0 0 = true := by decide
  have e2 : lowV q 0 0 0 = q := by unfold lowV; rw [if_pos e1]
  rw [e1, e2] at k
  exact k
/-- **OfWhole.** -/
theorem OfWhole_any (neg : Bool) (V : Nat) (hV : V < 2 ^ 256) (w : World) (hT : Tab w) :
    Calls Tryd.prog 30 #[.agg #[.bool (neg ), .int .u64 (lm ( V) 0 : Nat), .int .u64 (lm ( V) 1 : Nat), .int .u64 (lm ( V) 2 : Nat), .int .u64 (lm ( V) 3 : Nat)]] w fun e w' => e = .returned (.tuple #[.int .u64 (ofV neg V : Nat), .bool (exactI neg V)]) ∧ Below w.heap.size w w' := by
  have hn := lm_nz hV
  have E := Exact_any neg V hV
  have T := Trail_lm V hV _ rfl
  generalize ht : (if V = 0 then 256 else tz V) = t at *
  have htl : t ≤ 256 := by
    rw [← ht]
    split
    · omega
    · rename_i c
      have h1 := tz_lt_bl (Nat.pos_of_ne_zero c)
      have h2 := (bl_le_iff V 256).2 hV
      omega
  have SH := fun w => Shr_any V t hV w (by omega)
  cases hx : exactI neg V with
  | false =>
    rw [hx] at E
    have e : ofV neg V = 0 := by unfold ofV; rw [if_neg (by rw [hx]; exact fun h => Bool.false_ne_true h.1)]
    rw [e]
    -- the other calls are not met
    go_enter Tryd.func30, Tryd.ntmps30
    repeat any_goals (first | (go_at_call 31; with_reducible refine (E _ (hT.alloc _)).mono ?_; rintro e w1 ⟨rfl, hb1⟩; have hl_w1_0 : w.heap.size < w1.heap.size := (by have h_ := (hb1).size; simp at h_; omega); have c_w1_0_0 := (hb1).cell (p := ⟨w.heap.size, 0, none⟩) (by first | (simp; done) | (simp; omega)); simp [go_sem] at c_w1_0_0; have f_w1_0_0 := (hb1).frozen (p := ⟨w.heap.size, 0, none⟩) (by first | (simp; done) | (simp; omega)); simp [go_sem] at f_w1_0_0; have c_w1_0_1 := (hb1).cell (p := ⟨w.heap.size, 1, none⟩) (by first | (simp; done) | (simp; omega)); simp [go_sem] at c_w1_0_1; have f_w1_0_1 := (hb1).frozen (p := ⟨w.heap.size, 1, none⟩) (by first | (simp; done) | (simp; omega)); simp [go_sem] at f_w1_0_1; have c_w1_0_2 := (hb1).cell (p := ⟨w.heap.size, 2, none⟩) (by first | (simp; done) | (simp; omega)); simp [go_sem] at c_w1_0_2; have f_w1_0_2 := (hb1).frozen (p := ⟨w.heap.size, 2, none⟩) (by first | (simp; done) | (simp; omega)); simp [go_sem] at f_w1_0_2; have c_w1_0_3 := (hb1).cell (p := ⟨w.heap.size, 3, none⟩) (by first | (simp; done) | (simp; omega)); simp [go_sem] at c_w1_0_3; have f_w1_0_3 := (hb1).frozen (p := ⟨w.heap.size, 3, none⟩) (by first | (simp; done) | (simp; omega)); simp [go_sem] at f_w1_0_3; have c_w1_0_4 := (hb1).cell (p := ⟨w.heap.size, 4, none⟩) (by first | (simp; done) | (simp; omega)); simp [go_sem] at c_w1_0_4; have f_w1_0_4 := (hb1).frozen (p := ⟨w.heap.size, 4, none⟩) (by first | (simp; done) | (simp; omega)); simp [go_sem] at f_w1_0_4) | go_skip | go_guarded | go_step | go_upon | (dsimp only []))
    go_ret2
    exact ⟨by simp, by (repeat first | with_reducible exact Below.refl _ _ | with_reducible assumption | with_reducible refine Below.drew ?_ | with_reducible refine below_alloc ?_ _ | ((with_reducible refine Below.setCell ?_ ?_ _); rotate_left; (focus (first | with_reducible exact Nat.le_refl _ | (simp; done) | (simp; omega) | omega))) | (with_reducible refine below_trans ?_ (by assumption)))⟩
  | true =>
    rw [hx] at E
    by_cases c : V = 0
    · have e : ofV neg V = 0 := by unfold ofV; rw [if_neg (fun h => h.2 c)]
      rw [e]
      have h0 : (V != 0) = false := by simpa using c
      rw [h0, Bool.not_eq_false'] at hn
      exact OfWhole_zero neg V t (V / 2 ^ t) _ _ w hT (Lib.hid (OwC.mk E T SH (Low_one _ (by rw [c, Nat.zero_div]; decide)) (LdAns_int (n := V / 2 ^ t) (by rw [c, Nat.zero_div]; decide) _ (.inl (by rw [c, Nat.zero_div])) (.inl (by rw [c, Nat.zero_div]))))) hn
    · rw [if_neg c] at ht
      subst ht
      have hb := exact_bl hx c
      obtain ⟨hq, hm, hbl⟩ := odd_split (Nat.pos_of_ne_zero c)
      have hbV := (bl_le_iff V 256).2 hV
      have h0 : (V != 0) = true := by simpa using c
      rw [h0, Bool.not_eq_true'] at hn
      have hq64 : V / 2 ^ tz V < 18446744073709551616 := Nat.lt_trans ((bl_le_iff _ 53).1 hb) (by decide)
      have hL : LdAns (floatOfInt FloatKind.f64 ((V / 2 ^ tz V : Nat) : Int)) ((tz V : Nat) : Int) (encF Ieee.double (V / 2 ^ tz V) (tz V)) := LdAns_int hb _ (by right; omega) (by right; omega)
      have hF : encF Ieee.double (V / 2 ^ tz V) (tz V) < 9218868437227405312 := encF_lt63 hb (by omega) (by omega)
      have C := OwC.mk E T SH (Low_one _ hq64) hL
      have e : ofV neg V = (if neg = true then 9223372036854775808 else 0) + encF Ieee.double (V / 2 ^ tz V) (tz V) := by unfold ofV; rw [if_pos ⟨hx, c⟩]
      rw [e]
      generalize encF Ieee.double (V / 2 ^ tz V) (tz V) = F at *
      cases neg with
      | false =>
        rw [if_neg (by decide), Nat.zero_add]
        exact OfWhole_pos V _ _ _ F w hT (by omega) (by omega) rfl (Lib.hid C) hn
      | true =>
        rw [if_pos rfl]
        have eG : bits BinOp.or IntKind.u64 (F : Int) 9223372036854775808 = ((9223372036854775808 + F : Nat) : Int) := by
          have h := u64_or_nat F 9223372036854775808 (by omega) (by decide)
          rw [Nat.or_comm, nat_join 63 _ F (by decide) (by omega)] at h
          exact h
        exact OfWhole_neg V _ _ _ F _ w hT (by omega) (by omega) rfl eG (Lib.hid C) hn
/-- what the calls of the document's Exact answer -/
structure RxC (neg : Bool) (V l t : Nat) (m : Bool) : Prop where
  c1 : ∀ w : World, Calls Tryd.prog 58 #[.agg #[.int .u64 (lm (V) 0 : Nat), .int .u64 (lm (V) 1 : Nat), .int .u64 (lm (V) 2 : Nat), .int .u64 (lm (V) 3 : Nat)]] w fun e w' => ∃ v, e = .returned v ∧ IsD w' v V ∧ Below w.heap.size w w'
  c2 : ∀ w : World, Calls Tryd.prog 69 #[.agg #[.bool (neg ), .int .u64 (lm ( V) 0 : Nat), .int .u64 (lm ( V) 1 : Nat), .int .u64 (lm ( V) 2 : Nat), .int .u64 (lm ( V) 3 : Nat)]] w fun e w' => e = .returned (.bool m) ∧ Below w.heap.size w w'
  c3 : ∀ (v : Value) (w : World), IsD w v V → Calls Tryd.prog 37 #[v] w fun e w' => e = .returned (.int .i64 (l : Nat)) ∧ w = w'
  c4 : ∀ (v : Value) (w : World), IsD w v V → Calls Tryd.prog 41 #[v] w fun e w' => e = .returned (.int .i64 (t : Nat)) ∧ w = w'
set_option maxHeartbeats 800000 in
theorem RExact_no (neg : Bool) (V l t : Nat) (w : World) (C : Hid (RxC neg V l t false)) :
    Calls Tryd.prog 56 #[.agg #[.bool (neg ), .int .u64 (lm ( V) 0 : Nat), .int .u64 (lm ( V) 1 : Nat), .int .u64 (lm ( V) 2 : Nat), .int .u64 (lm ( V) 3 : Nat)]] w fun e w' => e = .returned (.bool false) ∧ Below w.heap.size w w' := by
  go_enter Tryd.func56, Tryd.ntmps56
  repeat any_goals (first | (go_at_call 58; with_reducible refine (C.out.c1 _).mono ?_; rintro e w1 ⟨v1, rfl, hv1, hb1⟩; have hl_w1_0 : w.heap.size < w1.heap.size := (by have h_ := (hb1).size; simp at h_; omega); have c_w1_0_0 := (hb1).cell (p := ⟨w.heap.size, 0, none⟩) (by first | (simp; done) | (simp; omega)); simp [go_sem] at c_w1_0_0; have f_w1_0_0 := (hb1).frozen (p := ⟨w.heap.size, 0, none⟩) (by first | (simp; done) | (simp; omega)); simp [go_sem] at f_w1_0_0; have c_w1_0_1 := (hb1).cell (p := ⟨w.heap.size, 1, none⟩) (by first | (simp; done) | (simp; omega)); simp [go_sem] at c_w1_0_1; have f_w1_0_1 := (hb1).frozen (p := ⟨w.heap.size, 1, none⟩) (by first | (simp; done) | (simp; omega)); simp [go_sem] at f_w1_0_1; have c_w1_0_2 := (hb1).cell (p := ⟨w.heap.size, 2, none⟩) (by first | (simp; done) | (simp; omega)); simp [go_sem] at c_w1_0_2; have f_w1_0_2 := (hb1).frozen (p := ⟨w.heap.size, 2, none⟩) (by first | (simp; done) | (simp; omega)); simp [go_sem] at f_w1_0_2; have c_w1_0_3 := (hb1).cell (p := ⟨w.heap.size, 3, none⟩) (by first | (simp; done) | (simp; omega)); simp [go_sem] at c_w1_0_3; have f_w1_0_3 := (hb1).frozen (p := ⟨w.heap.size, 3, none⟩) (by first | (simp; done) | (simp; omega)); simp [go_sem] at f_w1_0_3; have c_w1_0_4 := (hb1).cell (p := ⟨w.heap.size, 4, none⟩) (by first | (simp; done) | (simp; omega)); simp [go_sem] at c_w1_0_4; have f_w1_0_4 := (hb1).frozen (p := ⟨w.heap.size, 4, none⟩) (by first | (simp; done) | (simp; omega)); simp [go_sem] at f_w1_0_4) | (go_at_call 69; with_reducible refine (C.out.c2 _).mono ?_; rintro e w2 ⟨rfl, hb2⟩) | go_skip | go_guarded | go_step | go_upon | (dsimp only []))
  go_ret
  exact ⟨by simp, by (repeat first | with_reducible exact Below.refl _ _ | with_reducible assumption | with_reducible refine Below.drew ?_ | with_reducible refine below_alloc ?_ _ | ((with_reducible refine Below.setCell ?_ ?_ _); rotate_left; (focus (first | with_reducible exact Nat.le_refl _ | (simp; done) | (simp; omega) | omega))) | (with_reducible refine below_trans ?_ (by assumption)))⟩
set_option maxHeartbeats 800000 in
theorem RExact_zero (neg : Bool) (V t : Nat) (w : World) (C : Hid (RxC neg V 0 t true)) :
    Calls Tryd.prog 56 #[.agg #[.bool (neg ), .int .u64 (lm ( V) 0 : Nat), .int .u64 (lm ( V) 1 : Nat), .int .u64 (lm ( V) 2 : Nat), .int .u64 (lm ( V) 3 : Nat)]] w fun e w' => e = .returned (.bool true) ∧ Below w.heap.size w w' := by
  go_enter Tryd.func56, Tryd.ntmps56
  repeat any_goals (first | (go_at_call 58; with_reducible refine (C.out.c1 _).mono ?_; rintro e w1 ⟨v1, rfl, hv1, hb1⟩; have hl_w1_0 : w.heap.size < w1.heap.size := (by have h_ := (hb1).size; simp at h_; omega); have c_w1_0_0 := (hb1).cell (p := ⟨w.heap.size, 0, none⟩) (by first | (simp; done) | (simp; omega)); simp [go_sem] at c_w1_0_0; have f_w1_0_0 := (hb1).frozen (p := ⟨w.heap.size, 0, none⟩) (by first | (simp; done) | (simp; omega)); simp [go_sem] at f_w1_0_0; have c_w1_0_1 := (hb1).cell (p := ⟨w.heap.size, 1, none⟩) (by first | (simp; done) | (simp; omega)); simp [go_sem] at c_w1_0_1; have f_w1_0_1 := (hb1).frozen (p := ⟨w.heap.size, 1, none⟩) (by first | (simp; done) | (simp; omega)); simp [go_sem] at f_w1_0_1; have c_w1_0_2 := (hb1).cell (p := ⟨w.heap.size, 2, none⟩) (by first | (simp; done) | (simp; omega)); simp [go_sem] at c_w1_0_2; have f_w1_0_2 := (hb1).frozen (p := ⟨w.heap.size, 2, none⟩) (by first | (simp; done) | (simp; omega)); simp [go_sem] at f_w1_0_2; have c_w1_0_3 := (hb1).cell (p := ⟨w.heap.size, 3, none⟩) (by first | (simp; done) | (simp; omega)); simp [go_sem] at c_w1_0_3; have f_w1_0_3 := (hb1).frozen (p := ⟨w.heap.size, 3, none⟩) (by first | (simp; done) | (simp; omega)); simp [go_sem] at f_w1_0_3; have c_w1_0_4 := (hb1).cell (p := ⟨w.heap.size, 4, none⟩) (by first | (simp; done) | (simp; omega)); simp [go_sem] at c_w1_0_4; have f_w1_0_4 := (hb1).frozen (p := ⟨w.heap.size, 4, none⟩) (by first | (simp; done) | (simp; omega)); simp [go_sem] at f_w1_0_4) | (go_at_call 69; with_reducible refine (C.out.c2 _).mono ?_; rintro e w2 ⟨rfl, hb2⟩) | (go_at_call 37; with_reducible refine (C.out.c3 _ _ (Below.isD hb2 hv1)).mono ?_; rintro e w' ⟨rfl, rfl⟩) | go_skip | go_guarded | go_step | go_upon | (dsimp only []))
  go_ret
  exact ⟨by simp, by (repeat first | with_reducible exact Below.refl _ _ | with_reducible assumption | with_reducible refine Below.drew ?_ | with_reducible refine below_alloc ?_ _ | ((with_reducible refine Below.setCell ?_ ?_ _); rotate_left; (focus (first | with_reducible exact Nat.le_refl _ | (simp; done) | (simp; omega) | omega))) | (with_reducible refine below_trans ?_ (by assumption)))⟩
set_option maxHeartbeats 800000 in
theorem RExact_num (neg : Bool) (V l t : Nat) (w : World) (hl0 : ((l : Int) == 0) = false) (hl : l ≤ 256) (ht : t ≤ 256) (x : Bool) (hx : decide ((l : Int) - (t : Int) ≤ 53) = x) (C : Hid (RxC neg V l t true)) :
    Calls Tryd.prog 56 #[.agg #[.bool (neg ), .int .u64 (lm ( V) 0 : Nat), .int .u64 (lm ( V) 1 : Nat), .int .u64 (lm ( V) 2 : Nat), .int .u64 (lm ( V) 3 : Nat)]] w fun e w' => e = .returned (.bool x) ∧ Below w.heap.size w w' := by
  go_enter Tryd.func56, Tryd.ntmps56
  repeat any_goals (first | (go_at_call 58; with_reducible refine (C.out.c1 _).mono ?_; rintro e w1 ⟨v1, rfl, hv1, hb1⟩; have hl_w1_0 : w.heap.size < w1.heap.size := (by have h_ := (hb1).size; simp at h_; omega); have c_w1_0_0 := (hb1).cell (p := ⟨w.heap.size, 0, none⟩) (by first | (simp; done) | (simp; omega)); simp [go_sem] at c_w1_0_0; have f_w1_0_0 := (hb1).frozen (p := ⟨w.heap.size, 0, none⟩) (by first | (simp; done) | (simp; omega)); simp [go_sem] at f_w1_0_0; have c_w1_0_1 := (hb1).cell (p := ⟨w.heap.size, 1, none⟩) (by first | (simp; done) | (simp; omega)); simp [go_sem] at c_w1_0_1; have f_w1_0_1 := (hb1).frozen (p := ⟨w.heap.size, 1, none⟩) (by first | (simp; done) | (simp; omega)); simp [go_sem] at f_w1_0_1; have c_w1_0_2 := (hb1).cell (p := ⟨w.heap.size, 2, none⟩) (by first | (simp; done) | (simp; omega)); simp [go_sem] at c_w1_0_2; have f_w1_0_2 := (hb1).frozen (p := ⟨w.heap.size, 2, none⟩) (by first | (simp; done) | (simp; omega)); simp [go_sem] at f_w1_0_2; have c_w1_0_3 := (hb1).cell (p := ⟨w.heap.size, 3, none⟩) (by first | (simp; done) | (simp; omega)); simp [go_sem] at c_w1_0_3; have f_w1_0_3 := (hb1).frozen (p := ⟨w.heap.size, 3, none⟩) (by first | (simp; done) | (simp; omega)); simp [go_sem] at f_w1_0_3; have c_w1_0_4 := (hb1).cell (p := ⟨w.heap.size, 4, none⟩) (by first | (simp; done) | (simp; omega)); simp [go_sem] at c_w1_0_4; have f_w1_0_4 := (hb1).frozen (p := ⟨w.heap.size, 4, none⟩) (by first | (simp; done) | (simp; omega)); simp [go_sem] at f_w1_0_4) | (go_at_call 69; with_reducible refine (C.out.c2 _).mono ?_; rintro e w2 ⟨rfl, hb2⟩) | (go_at_call 37; with_reducible refine (C.out.c3 _ _ (Below.isD hb2 hv1)).mono ?_; rintro e w' ⟨rfl, rfl⟩) | (go_at_call 41; with_reducible refine (C.out.c4 _ _ (Below.isD hb2 hv1)).mono ?_; rintro e w' ⟨rfl, rfl⟩) | go_skip | go_guarded | go_step | go_upon | (dsimp only []))
  all_goals (go_ret; exact ⟨by first | (simp; done) | (simp [← hx]; omega), by (repeat first | with_reducible exact Below.refl _ _ | with_reducible assumption | with_reducible refine Below.drew ?_ | with_reducible refine below_alloc ?_ _ | ((with_reducible refine Below.setCell ?_ ?_ _); rotate_left; (focus (first | with_reducible exact Nat.le_refl _ | (simp; done) | (simp; omega) | omega))) | (with_reducible refine below_trans ?_ (by assumption)))⟩)
/-- **Exact** of the document. -/
theorem RExact_any (neg : Bool) (V : Nat) (hV : V < 2 ^ 256) (w : World) :
    Calls Tryd.prog 56 #[.agg #[.bool (neg ), .int .u64 (lm ( V) 0 : Nat), .int .u64 (lm ( V) 1 : Nat), .int .u64 (lm ( V) 2 : Nat), .int .u64 (lm ( V) 3 : Nat)]] w fun e w' => e = .returned (.bool (exactI neg V)) ∧ Below w.heap.size w w' := by
  have C := RxC.mk (fun w => DOf_any V hV w) (RMayI_any neg V hV) (fun v w h => DLen_any v _ V w h) (fun v w h => DTrail_any v _ V w h)
  cases hm : mayI neg V with
  | false =>
    have e : exactI neg V = false := by unfold exactI; rw [hm]; rfl
    rw [hm] at C
    rw [e]
    exact RExact_no neg V _ _ w (Lib.hid C)
  | true =>
    rw [hm] at C
    by_cases c : V = 0
    · have e : exactI neg V = true := by unfold exactI; rw [hm, c]; rfl
      rw [e]
      rw [show bl V = 0 from by rw [c, bl_zero]] at C
      exact RExact_zero neg V _ w (Lib.hid C)
    · have hlt := tz_lt_bl (Nat.pos_of_ne_zero c)
      have hbl := (bl_le_iff V 256).2 hV
      have e : exactI neg V = decide ((bl V : Int) - (tz V : Int) ≤ 53) := by
        unfold exactI
        rw [hm, show (V == 0) = false from by simpa using c, Bool.true_and, Bool.false_or]
        rw [decide_eq_decide]
        omega
      rw [e]
      rw [if_neg c] at C
      exact RExact_num neg V (bl V) (tz V) w (by simp; omega) hbl (by omega) _ rfl (Lib.hid C)
end Go.Proofs.YtpmfnhcnldoelaaDoor
