/- The law FloatWholes. -/
import Derived.Test.YtpmfnhcnldoelaaDoorWd
import Derived.Test.YtpmfnhcnldoelaaDoorToldA
namespace Go.Proofs.YtpmfnhcnldoelaaDoor
open Go.RowKit
/-- **OfWhole** of the document. -/
theorem ROfWhole_any (neg : Bool) (V : Nat) (hV : V < 2 ^ 256) (w : World) (hT : Tab w) :
    Calls Tryd.prog 32 #[.agg #[.bool (neg ), .int .u64 (lm ( V) 0 : Nat), .int .u64 (lm ( V) 1 : Nat), .int .u64 (lm ( V) 2 : Nat), .int .u64 (lm ( V) 3 : Nat)]] w fun e w' => e = .returned (.tuple #[.int .u64 (ofV neg V : Nat), .bool (exactI neg V)]) ∧ Below w.heap.size w w' := by
  have E := RExact_any neg V hV
  cases hx : exactI neg V with
  | false =>
    rw [hx] at E
    have e : ofV neg V = 0 := by unfold ofV; rw [if_neg (by rw [hx]; exact fun h => Bool.false_ne_true h.1)]
    rw [e]
    exact ROfWhole_no neg V w (Lib.hid E)
  | true =>
    rw [hx] at E
    have hdl : dl V ≤ 8 := (dl_le_iff V 8).2 hV
    have P := fun (v : Value) (w : World) (h : IsD w v V) => Pack_D neg v _ V 0 w h (by omega) (by omega) (by omega)
    rw [Int.zero_add] at P
    have R : repDB (V / 2 ^ tz V) (tz V) = true ∧ (if neg = true then 9223372036854775808 else 0) + encF Ieee.double (V / 2 ^ tz V) (tz V) = ofV neg V := by
      by_cases c : V = 0
      · subst c
        have hn : neg = false := by
          cases neg with
          | false => rfl
          | true => exact absurd hx (by decide)
        subst hn
        refine ⟨by rw [Nat.zero_div]; rfl, ?_⟩
        rw [Nat.zero_div, encF_zero]
        have e : ofV false 0 = 0 := if_neg (fun h => h.2 rfl)
        rw [e]
        rfl
      · have hb := exact_bl hx c
        obtain ⟨hq, hm, hbl⟩ := odd_split (Nat.pos_of_ne_zero c)
        have hbV := (bl_le_iff V 256).2 hV
        refine ⟨repDB_iff.2 (.inr ⟨hb, by omega, by omega⟩), ?_⟩
        have e : ofV neg V = (if neg = true then 9223372036854775808 else 0) + encF Ieee.double (V / 2 ^ tz V) (tz V) := if_pos ⟨hx, c⟩
        rw [e]
    rw [R.1, if_pos rfl, R.2] at P
    exact ROfWhole_yes neg V _ w hT (Lib.hid E) (Lib.hid fun w => DOf_any V hV w) (Lib.hid P)
/-- the float of an exact number, taken apart -/
theorem ofV_back {neg : Bool} {V : Nat} (hV : V < 2 ^ 256) (hx : exactI neg V = true) : ofV neg V < 18446744073709551616 ∧ whk (ofV neg V) = true ∧ whV (ofV neg V) = V ∧ whN (ofV neg V) = neg := by
  by_cases c : V = 0
  · subst c
    have hn : neg = false := by
      cases neg with
      | false => rfl
      | true => exact absurd hx (by decide)
    subst hn
    have e : ofV false 0 = 0 := by unfold ofV; rw [if_neg (fun h => h.2 rfl)]
    rw [e]
    exact ⟨by decide, by decide, by decide, by decide⟩
  · have hb := exact_bl hx c
    obtain ⟨hq, hm, hbl⟩ := odd_split (Nat.pos_of_ne_zero c)
    have hbV := (bl_le_iff V 256).2 hV
    have hodd := odd_part_odd (Nat.pos_of_ne_zero c)
    have hrep : repD (V / 2 ^ tz V) (tz V) := ⟨hb, by omega, by omega⟩
    have hlt := encD_lt hq hrep
    have e : ofV neg V = (if neg = true then 1 else 0) * 9223372036854775808 + encF Ieee.double (V / 2 ^ tz V) (tz V) := by
      unfold ofV
      rw [if_pos ⟨hx, c⟩]
      cases neg <;> simp
    have hs : (if neg = true then 1 else 0) ≤ 1 := by split <;> omega
    obtain ⟨p1, p2, p3, p4⟩ := parts_enc hq hrep (if neg = true then 1 else 0) hs
    rw [← e] at p1 p2 p3 p4
    rw [tz_odd hodd, Nat.pow_zero, Nat.div_one] at p3
    rw [tz_odd hodd] at p4
    have hsg : ofV neg V / 9223372036854775808 = (if neg = true then 1 else 0) := by rw [e]; exact sgn_lt hlt
    have hpk : pk (ofV neg V) = ((tz V : Nat) : Int) := by rw [p4]; omega
    have hok : shlOk (V / 2 ^ tz V) ((tz V : Nat) : Int) = true := (shlOk_iff hq).2 ⟨by omega, by rw [show ((tz V : Nat) : Int).toNat = tz V from rfl, hm]; exact hV⟩
    have hk : whk (ofV neg V) = true := by
      unfold whk
      rw [p3, hpk, hok, fin_iff.2 p1, decide_eq_true (by omega)]
      rfl
    refine ⟨?_, hk, ?_, ?_⟩
    · rw [e]
      split <;> omega
    · unfold whV
      rw [if_pos hk, p3, hpk, show ((tz V : Nat) : Int).toNat = tz V from rfl, hm]
    · unfold whN
      rw [hk, hsg, p3, decide_eq_true hq, Bool.true_and, Bool.and_true]
      cases neg <;> rfl
/-- what the calls answer -/
structure WhCalls (neg : Bool) (V X : Nat) (ok : Bool) : Prop where
  c1 : ∀ w : World, Tab w → Calls Tryd.prog 30 #[.agg #[.bool (neg ), .int .u64 (lm ( V) 0 : Nat), .int .u64 (lm ( V) 1 : Nat), .int .u64 (lm ( V) 2 : Nat), .int .u64 (lm ( V) 3 : Nat)]] w fun e w' => e = .returned (.tuple #[.int .u64 X, .bool ok]) ∧ Below w.heap.size w w'
  c2 : ∀ w : World, Tab w → Calls Tryd.prog 31 #[.agg #[.bool (neg ), .int .u64 (lm ( V) 0 : Nat), .int .u64 (lm ( V) 1 : Nat), .int .u64 (lm ( V) 2 : Nat), .int .u64 (lm ( V) 3 : Nat)]] w fun e w' => e = .returned (.bool ok) ∧ Below w.heap.size w w'
structure WhCalls2 (neg : Bool) (V X : Nat) : Prop where
  c3 : ∀ w : World, Tab w → Calls Tryd.prog 11 #[.int .u64 X] w fun e w' => e = .returned (.tuple #[.agg #[.bool (neg ), .int .u64 (lm ( V) 0 : Nat), .int .u64 (lm ( V) 1 : Nat), .int .u64 (lm ( V) 2 : Nat), .int .u64 (lm ( V) 3 : Nat)], .bool true]) ∧ Below w.heap.size w w'
  c4 : ∀ w : World, Tab w → Calls Tryd.prog 32 #[.agg #[.bool (neg ), .int .u64 (lm ( V) 0 : Nat), .int .u64 (lm ( V) 1 : Nat), .int .u64 (lm ( V) 2 : Nat), .int .u64 (lm ( V) 3 : Nat)]] w fun e w' => e = .returned (.tuple #[.int .u64 X, .bool true]) ∧ Below w.heap.size w w'
  c5 : ∀ w : World, Tab w → Calls Tryd.prog 14 #[.int .u64 X] w fun e w' => e = .returned (.int .i64 0) ∧ Below w.heap.size w w'
  c6 : ∀ w : World, Tab w → Calls Tryd.prog 16 #[.int .u64 X] w fun e w' => e = .returned (.bool false) ∧ Below w.heap.size w w'
set_option maxHeartbeats 1600000 in
theorem Wholes_no (neg : Bool) (V : Nat) (w : World) (hT : Tab w) (C : Hid (WhCalls neg V 0 false)) :
    Calls Tryd.prog 10 #[.agg #[.bool (neg ), .int .u64 (lm ( V) 0 : Nat), .int .u64 (lm ( V) 1 : Nat), .int .u64 (lm ( V) 2 : Nat), .int .u64 (lm ( V) 3 : Nat)]] w fun e w' => e = .returned (.bool true) ∧ Below w.heap.size w w' := by
  go_enter Tryd.func10, Tryd.ntmps10
  repeat any_goals (first | (go_at_call 30; with_reducible refine (C.out.c1 _ (hT.alloc _)).mono ?_; rintro e w1 ⟨rfl, hb1⟩; have hl_w1_0 : w.heap.size < w1.heap.size := (by have h_ := (hb1).size; simp at h_; omega); have c_w1_0_0 := (hb1).cell (p := ⟨w.heap.size, 0, none⟩) (by first | (simp; done) | (simp; omega)); simp [go_sem] at c_w1_0_0; have f_w1_0_0 := (hb1).frozen (p := ⟨w.heap.size, 0, none⟩) (by first | (simp; done) | (simp; omega)); simp [go_sem] at f_w1_0_0; have c_w1_0_1 := (hb1).cell (p := ⟨w.heap.size, 1, none⟩) (by first | (simp; done) | (simp; omega)); simp [go_sem] at c_w1_0_1; have f_w1_0_1 := (hb1).frozen (p := ⟨w.heap.size, 1, none⟩) (by first | (simp; done) | (simp; omega)); simp [go_sem] at f_w1_0_1; have c_w1_0_2 := (hb1).cell (p := ⟨w.heap.size, 2, none⟩) (by first | (simp; done) | (simp; omega)); simp [go_sem] at c_w1_0_2; have f_w1_0_2 := (hb1).frozen (p := ⟨w.heap.size, 2, none⟩) (by first | (simp; done) | (simp; omega)); simp [go_sem] at f_w1_0_2; have c_w1_0_3 := (hb1).cell (p := ⟨w.heap.size, 3, none⟩) (by first | (simp; done) | (simp; omega)); simp [go_sem] at c_w1_0_3; have f_w1_0_3 := (hb1).frozen (p := ⟨w.heap.size, 3, none⟩) (by first | (simp; done) | (simp; omega)); simp [go_sem] at f_w1_0_3; have c_w1_0_4 := (hb1).cell (p := ⟨w.heap.size, 4, none⟩) (by first | (simp; done) | (simp; omega)); simp [go_sem] at c_w1_0_4; have f_w1_0_4 := (hb1).frozen (p := ⟨w.heap.size, 4, none⟩) (by first | (simp; done) | (simp; omega)); simp [go_sem] at f_w1_0_4) | (go_at_call 31; with_reducible refine (C.out.c2 _ ((hT.alloc _).below hb1)).mono ?_; rintro e w2 ⟨rfl, hb2⟩; have hl_w2_0 : w.heap.size < w2.heap.size := (by have h_ := (hb2).size; (try simp at h_); omega); have c_w2_0_0 := (hb2).cell (p := ⟨w.heap.size, 0, none⟩) (by first | (simp; done) | (simp; omega)); simp [go_sem, c_w1_0_0] at c_w2_0_0; have f_w2_0_0 := (hb2).frozen (p := ⟨w.heap.size, 0, none⟩) (by first | (simp; done) | (simp; omega)); simp [go_sem, f_w1_0_0] at f_w2_0_0; have c_w2_0_1 := (hb2).cell (p := ⟨w.heap.size, 1, none⟩) (by first | (simp; done) | (simp; omega)); simp [go_sem, c_w1_0_1] at c_w2_0_1; have f_w2_0_1 := (hb2).frozen (p := ⟨w.heap.size, 1, none⟩) (by first | (simp; done) | (simp; omega)); simp [go_sem, f_w1_0_1] at f_w2_0_1; have c_w2_0_2 := (hb2).cell (p := ⟨w.heap.size, 2, none⟩) (by first | (simp; done) | (simp; omega)); simp [go_sem, c_w1_0_2] at c_w2_0_2; have f_w2_0_2 := (hb2).frozen (p := ⟨w.heap.size, 2, none⟩) (by first | (simp; done) | (simp; omega)); simp [go_sem, f_w1_0_2] at f_w2_0_2; have c_w2_0_3 := (hb2).cell (p := ⟨w.heap.size, 3, none⟩) (by first | (simp; done) | (simp; omega)); simp [go_sem, c_w1_0_3] at c_w2_0_3; have f_w2_0_3 := (hb2).frozen (p := ⟨w.heap.size, 3, none⟩) (by first | (simp; done) | (simp; omega)); simp [go_sem, f_w1_0_3] at f_w2_0_3; have c_w2_0_4 := (hb2).cell (p := ⟨w.heap.size, 4, none⟩) (by first | (simp; done) | (simp; omega)); simp [go_sem, c_w1_0_4] at c_w2_0_4; have f_w2_0_4 := (hb2).frozen (p := ⟨w.heap.size, 4, none⟩) (by first | (simp; done) | (simp; omega)); simp [go_sem, f_w1_0_4] at f_w2_0_4) | (go_at_call 13; with_reducible refine (told_any _ (((hT.alloc _).below hb1).below hb2)).mono ?_; rintro e w3 ⟨rfl, hb3⟩) | go_skip | go_guarded | go_step | go_upon | (dsimp only []))
  all_goals (go_ret; exact ⟨by first | (simp; done) | (simp; omega), by (repeat first | with_reducible exact Below.refl _ _ | with_reducible assumption | with_reducible refine Below.drew ?_ | with_reducible refine below_alloc ?_ _ | ((with_reducible refine Below.setCell ?_ ?_ _); rotate_left; (focus (first | with_reducible exact Nat.le_refl _ | (simp; done) | (simp; omega) | omega))) | (with_reducible refine below_trans ?_ (by assumption)))⟩)
set_option maxHeartbeats 1600000 in
theorem Wholes_yes (neg : Bool) (V X : Nat) (w : World) (hT : Tab w) (C : Hid (WhCalls neg V X true)) (D : Hid (WhCalls2 neg V X)) :
    Calls Tryd.prog 10 #[.agg #[.bool (neg ), .int .u64 (lm ( V) 0 : Nat), .int .u64 (lm ( V) 1 : Nat), .int .u64 (lm ( V) 2 : Nat), .int .u64 (lm ( V) 3 : Nat)]] w fun e w' => e = .returned (.bool true) ∧ Below w.heap.size w w' := by
  go_enter Tryd.func10, Tryd.ntmps10
  repeat any_goals (first | (go_at_call 30; with_reducible refine (C.out.c1 _ (hT.alloc _)).mono ?_; rintro e w1 ⟨rfl, hb1⟩; have hl_w1_0 : w.heap.size < w1.heap.size := (by have h_ := (hb1).size; simp at h_; omega); have c_w1_0_0 := (hb1).cell (p := ⟨w.heap.size, 0, none⟩) (by first | (simp; done) | (simp; omega)); simp [go_sem] at c_w1_0_0; have f_w1_0_0 := (hb1).frozen (p := ⟨w.heap.size, 0, none⟩) (by first | (simp; done) | (simp; omega)); simp [go_sem] at f_w1_0_0; have c_w1_0_1 := (hb1).cell (p := ⟨w.heap.size, 1, none⟩) (by first | (simp; done) | (simp; omega)); simp [go_sem] at c_w1_0_1; have f_w1_0_1 := (hb1).frozen (p := ⟨w.heap.size, 1, none⟩) (by first | (simp; done) | (simp; omega)); simp [go_sem] at f_w1_0_1; have c_w1_0_2 := (hb1).cell (p := ⟨w.heap.size, 2, none⟩) (by first | (simp; done) | (simp; omega)); simp [go_sem] at c_w1_0_2; have f_w1_0_2 := (hb1).frozen (p := ⟨w.heap.size, 2, none⟩) (by first | (simp; done) | (simp; omega)); simp [go_sem] at f_w1_0_2; have c_w1_0_3 := (hb1).cell (p := ⟨w.heap.size, 3, none⟩) (by first | (simp; done) | (simp; omega)); simp [go_sem] at c_w1_0_3; have f_w1_0_3 := (hb1).frozen (p := ⟨w.heap.size, 3, none⟩) (by first | (simp; done) | (simp; omega)); simp [go_sem] at f_w1_0_3; have c_w1_0_4 := (hb1).cell (p := ⟨w.heap.size, 4, none⟩) (by first | (simp; done) | (simp; omega)); simp [go_sem] at c_w1_0_4; have f_w1_0_4 := (hb1).frozen (p := ⟨w.heap.size, 4, none⟩) (by first | (simp; done) | (simp; omega)); simp [go_sem] at f_w1_0_4) | (go_at_call 31; with_reducible refine (C.out.c2 _ ((hT.alloc _).below hb1)).mono ?_; rintro e w2 ⟨rfl, hb2⟩; have hl_w2_0 : w.heap.size < w2.heap.size := (by have h_ := (hb2).size; (try simp at h_); omega); have c_w2_0_0 := (hb2).cell (p := ⟨w.heap.size, 0, none⟩) (by first | (simp; done) | (simp; omega)); simp [go_sem, c_w1_0_0] at c_w2_0_0; have f_w2_0_0 := (hb2).frozen (p := ⟨w.heap.size, 0, none⟩) (by first | (simp; done) | (simp; omega)); simp [go_sem, f_w1_0_0] at f_w2_0_0; have c_w2_0_1 := (hb2).cell (p := ⟨w.heap.size, 1, none⟩) (by first | (simp; done) | (simp; omega)); simp [go_sem, c_w1_0_1] at c_w2_0_1; have f_w2_0_1 := (hb2).frozen (p := ⟨w.heap.size, 1, none⟩) (by first | (simp; done) | (simp; omega)); simp [go_sem, f_w1_0_1] at f_w2_0_1; have c_w2_0_2 := (hb2).cell (p := ⟨w.heap.size, 2, none⟩) (by first | (simp; done) | (simp; omega)); simp [go_sem, c_w1_0_2] at c_w2_0_2; have f_w2_0_2 := (hb2).frozen (p := ⟨w.heap.size, 2, none⟩) (by first | (simp; done) | (simp; omega)); simp [go_sem, f_w1_0_2] at f_w2_0_2; have c_w2_0_3 := (hb2).cell (p := ⟨w.heap.size, 3, none⟩) (by first | (simp; done) | (simp; omega)); simp [go_sem, c_w1_0_3] at c_w2_0_3; have f_w2_0_3 := (hb2).frozen (p := ⟨w.heap.size, 3, none⟩) (by first | (simp; done) | (simp; omega)); simp [go_sem, f_w1_0_3] at f_w2_0_3; have c_w2_0_4 := (hb2).cell (p := ⟨w.heap.size, 4, none⟩) (by first | (simp; done) | (simp; omega)); simp [go_sem, c_w1_0_4] at c_w2_0_4; have f_w2_0_4 := (hb2).frozen (p := ⟨w.heap.size, 4, none⟩) (by first | (simp; done) | (simp; omega)); simp [go_sem, f_w1_0_4] at f_w2_0_4) | (go_at_call 11; with_reducible refine (D.out.c3 _ (((hT.alloc _).below hb1).below hb2)).mono ?_; rintro e w3 ⟨rfl, hb3⟩; have hl_w3_0 : w.heap.size < w3.heap.size := (by have h_ := (hb3).size; (try simp at h_); omega); have c_w3_0_0 := (hb3).cell (p := ⟨w.heap.size, 0, none⟩) (by first | (simp; done) | (simp; omega)); simp [go_sem, c_w2_0_0] at c_w3_0_0; have f_w3_0_0 := (hb3).frozen (p := ⟨w.heap.size, 0, none⟩) (by first | (simp; done) | (simp; omega)); simp [go_sem, f_w2_0_0] at f_w3_0_0; have c_w3_0_1 := (hb3).cell (p := ⟨w.heap.size, 1, none⟩) (by first | (simp; done) | (simp; omega)); simp [go_sem, c_w2_0_1] at c_w3_0_1; have f_w3_0_1 := (hb3).frozen (p := ⟨w.heap.size, 1, none⟩) (by first | (simp; done) | (simp; omega)); simp [go_sem, f_w2_0_1] at f_w3_0_1; have c_w3_0_2 := (hb3).cell (p := ⟨w.heap.size, 2, none⟩) (by first | (simp; done) | (simp; omega)); simp [go_sem, c_w2_0_2] at c_w3_0_2; have f_w3_0_2 := (hb3).frozen (p := ⟨w.heap.size, 2, none⟩) (by first | (simp; done) | (simp; omega)); simp [go_sem, f_w2_0_2] at f_w3_0_2; have c_w3_0_3 := (hb3).cell (p := ⟨w.heap.size, 3, none⟩) (by first | (simp; done) | (simp; omega)); simp [go_sem, c_w2_0_3] at c_w3_0_3; have f_w3_0_3 := (hb3).frozen (p := ⟨w.heap.size, 3, none⟩) (by first | (simp; done) | (simp; omega)); simp [go_sem, f_w2_0_3] at f_w3_0_3; have c_w3_0_4 := (hb3).cell (p := ⟨w.heap.size, 4, none⟩) (by first | (simp; done) | (simp; omega)); simp [go_sem, c_w2_0_4] at c_w3_0_4; have f_w3_0_4 := (hb3).frozen (p := ⟨w.heap.size, 4, none⟩) (by first | (simp; done) | (simp; omega)); simp [go_sem, f_w2_0_4] at f_w3_0_4) | (go_at_call 32; with_reducible refine (D.out.c4 _ (((((hT.alloc _).below hb1).below hb2).below hb3).alloc _)).mono ?_; rintro e w4 ⟨rfl, hb4⟩; have hl_w4_0 : w.heap.size < w4.heap.size := (by have h_ := (hb4).size; (try simp at h_); omega); have c_w4_0_0 := (hb4).cell (p := ⟨w.heap.size, 0, none⟩) (by first | (simp; done) | (simp; omega)); simp [go_sem, hl_w3_0, c_w3_0_0] at c_w4_0_0; have f_w4_0_0 := (hb4).frozen (p := ⟨w.heap.size, 0, none⟩) (by first | (simp; done) | (simp; omega)); simp [go_sem, hl_w3_0, f_w3_0_0] at f_w4_0_0; have c_w4_0_1 := (hb4).cell (p := ⟨w.heap.size, 1, none⟩) (by first | (simp; done) | (simp; omega)); simp [go_sem, hl_w3_0, c_w3_0_1] at c_w4_0_1; have f_w4_0_1 := (hb4).frozen (p := ⟨w.heap.size, 1, none⟩) (by first | (simp; done) | (simp; omega)); simp [go_sem, hl_w3_0, f_w3_0_1] at f_w4_0_1; have c_w4_0_2 := (hb4).cell (p := ⟨w.heap.size, 2, none⟩) (by first | (simp; done) | (simp; omega)); simp [go_sem, hl_w3_0, c_w3_0_2] at c_w4_0_2; have f_w4_0_2 := (hb4).frozen (p := ⟨w.heap.size, 2, none⟩) (by first | (simp; done) | (simp; omega)); simp [go_sem, hl_w3_0, f_w3_0_2] at f_w4_0_2; have c_w4_0_3 := (hb4).cell (p := ⟨w.heap.size, 3, none⟩) (by first | (simp; done) | (simp; omega)); simp [go_sem, hl_w3_0, c_w3_0_3] at c_w4_0_3; have f_w4_0_3 := (hb4).frozen (p := ⟨w.heap.size, 3, none⟩) (by first | (simp; done) | (simp; omega)); simp [go_sem, hl_w3_0, f_w3_0_3] at f_w4_0_3; have c_w4_0_4 := (hb4).cell (p := ⟨w.heap.size, 4, none⟩) (by first | (simp; done) | (simp; omega)); simp [go_sem, hl_w3_0, c_w3_0_4] at c_w4_0_4; have f_w4_0_4 := (hb4).frozen (p := ⟨w.heap.size, 4, none⟩) (by first | (simp; done) | (simp; omega)); simp [go_sem, hl_w3_0, f_w3_0_4] at f_w4_0_4; have hl_w4b_0 : w3.heap.size < w4.heap.size := (by have h_ := (hb4).size; simp at h_; omega); have c_w4b_0_0 := (hb4).cell (p := ⟨w3.heap.size, 0, none⟩) (by first | (simp; done) | (simp; omega)); simp [go_sem] at c_w4b_0_0; have f_w4b_0_0 := (hb4).frozen (p := ⟨w3.heap.size, 0, none⟩) (by first | (simp; done) | (simp; omega)); simp [go_sem] at f_w4b_0_0; have c_w4b_0_1 := (hb4).cell (p := ⟨w3.heap.size, 1, none⟩) (by first | (simp; done) | (simp; omega)); simp [go_sem] at c_w4b_0_1; have f_w4b_0_1 := (hb4).frozen (p := ⟨w3.heap.size, 1, none⟩) (by first | (simp; done) | (simp; omega)); simp [go_sem] at f_w4b_0_1; have c_w4b_0_2 := (hb4).cell (p := ⟨w3.heap.size, 2, none⟩) (by first | (simp; done) | (simp; omega)); simp [go_sem] at c_w4b_0_2; have f_w4b_0_2 := (hb4).frozen (p := ⟨w3.heap.size, 2, none⟩) (by first | (simp; done) | (simp; omega)); simp [go_sem] at f_w4b_0_2; have c_w4b_0_3 := (hb4).cell (p := ⟨w3.heap.size, 3, none⟩) (by first | (simp; done) | (simp; omega)); simp [go_sem] at c_w4b_0_3; have f_w4b_0_3 := (hb4).frozen (p := ⟨w3.heap.size, 3, none⟩) (by first | (simp; done) | (simp; omega)); simp [go_sem] at f_w4b_0_3; have c_w4b_0_4 := (hb4).cell (p := ⟨w3.heap.size, 4, none⟩) (by first | (simp; done) | (simp; omega)); simp [go_sem] at c_w4b_0_4; have f_w4b_0_4 := (hb4).frozen (p := ⟨w3.heap.size, 4, none⟩) (by first | (simp; done) | (simp; omega)); simp [go_sem] at f_w4b_0_4) | (go_at_call 13; with_reducible refine (told_any _ ((((((hT.alloc _).below hb1).below hb2).below hb3).alloc _).below hb4)).mono ?_; rintro e w5 ⟨rfl, hb5⟩; have hl_w5_0 : w.heap.size < w5.heap.size := (by have h_ := (hb5).size; (try simp at h_); omega); have c_w5_0_0 := (hb5).cell (p := ⟨w.heap.size, 0, none⟩) (by first | (simp; done) | (simp; omega)); simp [go_sem, c_w4_0_0] at c_w5_0_0; have f_w5_0_0 := (hb5).frozen (p := ⟨w.heap.size, 0, none⟩) (by first | (simp; done) | (simp; omega)); simp [go_sem, f_w4_0_0] at f_w5_0_0; have c_w5_0_1 := (hb5).cell (p := ⟨w.heap.size, 1, none⟩) (by first | (simp; done) | (simp; omega)); simp [go_sem, c_w4_0_1] at c_w5_0_1; have f_w5_0_1 := (hb5).frozen (p := ⟨w.heap.size, 1, none⟩) (by first | (simp; done) | (simp; omega)); simp [go_sem, f_w4_0_1] at f_w5_0_1; have c_w5_0_2 := (hb5).cell (p := ⟨w.heap.size, 2, none⟩) (by first | (simp; done) | (simp; omega)); simp [go_sem, c_w4_0_2] at c_w5_0_2; have f_w5_0_2 := (hb5).frozen (p := ⟨w.heap.size, 2, none⟩) (by first | (simp; done) | (simp; omega)); simp [go_sem, f_w4_0_2] at f_w5_0_2; have c_w5_0_3 := (hb5).cell (p := ⟨w.heap.size, 3, none⟩) (by first | (simp; done) | (simp; omega)); simp [go_sem, c_w4_0_3] at c_w5_0_3; have f_w5_0_3 := (hb5).frozen (p := ⟨w.heap.size, 3, none⟩) (by first | (simp; done) | (simp; omega)); simp [go_sem, f_w4_0_3] at f_w5_0_3; have c_w5_0_4 := (hb5).cell (p := ⟨w.heap.size, 4, none⟩) (by first | (simp; done) | (simp; omega)); simp [go_sem, c_w4_0_4] at c_w5_0_4; have f_w5_0_4 := (hb5).frozen (p := ⟨w.heap.size, 4, none⟩) (by first | (simp; done) | (simp; omega)); simp [go_sem, f_w4_0_4] at f_w5_0_4; have hl_w5b_0 : w3.heap.size < w5.heap.size := (by have h_ := (hb5).size; (try simp at h_); omega); have c_w5b_0_0 := (hb5).cell (p := ⟨w3.heap.size, 0, none⟩) (by first | (simp; done) | (simp; omega)); simp [go_sem, c_w4b_0_0] at c_w5b_0_0; have f_w5b_0_0 := (hb5).frozen (p := ⟨w3.heap.size, 0, none⟩) (by first | (simp; done) | (simp; omega)); simp [go_sem, f_w4b_0_0] at f_w5b_0_0; have c_w5b_0_1 := (hb5).cell (p := ⟨w3.heap.size, 1, none⟩) (by first | (simp; done) | (simp; omega)); simp [go_sem, c_w4b_0_1] at c_w5b_0_1; have f_w5b_0_1 := (hb5).frozen (p := ⟨w3.heap.size, 1, none⟩) (by first | (simp; done) | (simp; omega)); simp [go_sem, f_w4b_0_1] at f_w5b_0_1; have c_w5b_0_2 := (hb5).cell (p := ⟨w3.heap.size, 2, none⟩) (by first | (simp; done) | (simp; omega)); simp [go_sem, c_w4b_0_2] at c_w5b_0_2; have f_w5b_0_2 := (hb5).frozen (p := ⟨w3.heap.size, 2, none⟩) (by first | (simp; done) | (simp; omega)); simp [go_sem, f_w4b_0_2] at f_w5b_0_2; have c_w5b_0_3 := (hb5).cell (p := ⟨w3.heap.size, 3, none⟩) (by first | (simp; done) | (simp; omega)); simp [go_sem, c_w4b_0_3] at c_w5b_0_3; have f_w5b_0_3 := (hb5).frozen (p := ⟨w3.heap.size, 3, none⟩) (by first | (simp; done) | (simp; omega)); simp [go_sem, f_w4b_0_3] at f_w5b_0_3; have c_w5b_0_4 := (hb5).cell (p := ⟨w3.heap.size, 4, none⟩) (by first | (simp; done) | (simp; omega)); simp [go_sem, c_w4b_0_4] at c_w5b_0_4; have f_w5b_0_4 := (hb5).frozen (p := ⟨w3.heap.size, 4, none⟩) (by first | (simp; done) | (simp; omega)); simp [go_sem, f_w4b_0_4] at f_w5b_0_4) | (go_at_call 14; with_reducible refine (D.out.c5 _ (((((((hT.alloc _).below hb1).below hb2).below hb3).alloc _).below hb4).below hb5)).mono ?_; rintro e w6 ⟨rfl, hb6⟩) | (go_at_call 16; with_reducible refine (D.out.c6 _ ((((((((hT.alloc _).below hb1).below hb2).below hb3).alloc _).below hb4).below hb5).below hb6)).mono ?_; rintro e w7 ⟨rfl, hb7⟩) | go_skip | go_guarded | go_step | go_upon | (dsimp only []))
  all_goals (go_ret; exact ⟨by first | (simp; done) | (simp; omega), by (repeat first | with_reducible exact Below.refl _ _ | with_reducible assumption | with_reducible refine Below.drew ?_ | with_reducible refine below_alloc ?_ _ | ((with_reducible refine Below.setCell ?_ ?_ _); rotate_left; (focus (first | with_reducible exact Nat.le_refl _ | (simp; done) | (simp; omega) | omega))) | (with_reducible refine below_trans ?_ (by assumption)))⟩)
/-- **FloatWholes.** -/
theorem Wholes_any (neg : Bool) (V : Nat) (hV : V < 2 ^ 256) (w : World) (hT : Tab w) :
    Calls Tryd.prog 10 #[.agg #[.bool (neg ), .int .u64 (lm ( V) 0 : Nat), .int .u64 (lm ( V) 1 : Nat), .int .u64 (lm ( V) 2 : Nat), .int .u64 (lm ( V) 3 : Nat)]] w fun e w' => e = .returned (.bool true) ∧ Below w.heap.size w w' := by
  have C := WhCalls.mk (OfWhole_any neg V hV) (Exact_any neg V hV)
  cases hx : exactI neg V with
  | false =>
    have e : ofV neg V = 0 := by unfold ofV; rw [if_neg (by rw [hx]; exact fun h => Bool.false_ne_true h.1)]
    rw [hx, e] at C
    exact Wholes_no neg V w hT (Lib.hid C)
  | true =>
    rw [hx] at C
    obtain ⟨h1, h2, h3, h4⟩ := ofV_back hV hx
    have hc : cls (ofV neg V) = 0 := cls_0 h2
    have D : WhCalls2 neg V (ofV neg V) := by
      refine ⟨fun w hT => ?_, fun w hT => ?_, fun w hT => ?_, fun w hT => ?_⟩
      · have k := Whole_any _ h1 w hT
        rw [h2, h3, h4] at k
        exact k
      · have k := ROfWhole_any neg V hV w hT
        rw [hx] at k
        exact k
      · have k := Class_any _ h1 w hT
        rw [hc] at k
        exact k
      · have k := MayF_any _ h1 w hT
        rw [show mayF (ofV neg V) = false from by unfold mayF; rw [hc]; rfl] at k
        exact k
    exact Wholes_yes neg V _ w hT (Lib.hid C) (Lib.hid D)
end Go.Proofs.YtpmfnhcnldoelaaDoor
