/- Contracts of the document's answer on floats: thin, wide, Half, Single, ToSingle, ToHalf. -/
import Derived.Test.YtpmfnhcnldoelaaDoorRf
namespace Go.Proofs.YtpmfnhcnldoelaaDoor
open Go.RowKit
structure ThC_S (b : Nat) (g : Bool) (p : Int) (M V : Nat) (ok : Bool) : Prop where
  c1 : ∀ w : World, Calls Tryd.prog 36 #[.int .u64 b] w fun e w' => ∃ v, e = .returned (.tuple #[.bool g, v, .int .i64 p, .bool true]) ∧ IsD w' v M ∧ Below w.heap.size w w'
  c2 : ∀ (v : Value) (w : World), IsD w v M → Calls Tryd.prog 57 #[.bool g, v, .int .i64 p, .int .i64 24, .int .i64 8] w fun e w' => e = .returned (.tuple #[.int .u64 V, .bool ok]) ∧ Below w.heap.size w w'
theorem thin_fin_S (b : Nat) (g : Bool) (p : Int) (M V : Nat) (ok : Bool) (w : World) (C : Hid (ThC_S b g p M V ok)) :
    Calls Tryd.prog 44 #[.int .u64 b, .int .i64 24, .int .i64 8] w fun e w' => e = .returned (.tuple #[.int .u64 V, .bool ok]) ∧ Below w.heap.size w w' := by
  go_enter Tryd.func44, Tryd.ntmps44
  repeat any_goals (first | (go_at_call 36; with_reducible refine (C.out.c1 _).mono ?_; rintro e w1 ⟨v1, rfl, hv1, hb1⟩) | (go_at_call 57; refine (C.out.c2 _ _ hv1).mono ?_; rintro e w2 ⟨rfl, hb2⟩) | go_skip | go_guarded | go_step | go_upon | (dsimp only []))
  go_ret2
  exact ⟨by simp, by (repeat first | with_reducible exact Below.refl _ _ | with_reducible assumption | with_reducible refine Below.drew ?_ | with_reducible refine below_alloc ?_ _ | ((with_reducible refine Below.setCell ?_ ?_ _); rotate_left; (focus (first | with_reducible exact Nat.le_refl _ | (simp; done) | (simp; omega) | omega))) | (with_reducible refine below_trans ?_ (by assumption)))⟩
theorem thin_nan_S (b m M : Nat) (g : Bool) (p : Int) (w : World) (C : Hid (RP b g p false M)) (e2 : bits BinOp.and IntKind.u64 (b : Int) 4503599627370495 = (m : Int)) (h : ((m : Int) != 0) = true) :
    Calls Tryd.prog 44 #[.int .u64 b, .int .i64 24, .int .i64 8] w fun e w' => e = .returned (.tuple #[.int .u64 2143289344, .bool true]) ∧ Below w.heap.size w w' := by
  go_enter Tryd.func44, Tryd.ntmps44
  repeat any_goals (first | (go_at_call 36; with_reducible refine (C.out.c _).mono ?_; rintro e w1 ⟨v1, rfl, hv1, hb1⟩) | go_skip | go_guarded | go_step | go_upon | (dsimp only []))
  go_ret2
  exact ⟨by simp <;> decide, by (repeat first | with_reducible exact Below.refl _ _ | with_reducible assumption | with_reducible refine Below.drew ?_ | with_reducible refine below_alloc ?_ _ | ((with_reducible refine Below.setCell ?_ ?_ _); rotate_left; (focus (first | with_reducible exact Nat.le_refl _ | (simp; done) | (simp; omega) | omega))) | (with_reducible refine below_trans ?_ (by assumption)))⟩
theorem thin_neg_S (b m M : Nat) (p : Int) (w : World) (C : Hid (RP b true p false M)) (e2 : bits BinOp.and IntKind.u64 (b : Int) 4503599627370495 = (m : Int)) (h : ((m : Int) != 0) = false) :
    Calls Tryd.prog 44 #[.int .u64 b, .int .i64 24, .int .i64 8] w fun e w' => e = .returned (.tuple #[.int .u64 4286578688, .bool true]) ∧ Below w.heap.size w w' := by
  go_enter Tryd.func44, Tryd.ntmps44
  repeat any_goals (first | (go_at_call 36; with_reducible refine (C.out.c _).mono ?_; rintro e w1 ⟨v1, rfl, hv1, hb1⟩) | go_skip | go_guarded | go_step | go_upon | (dsimp only []))
  go_ret2
  exact ⟨by simp <;> decide, by (repeat first | with_reducible exact Below.refl _ _ | with_reducible assumption | with_reducible refine Below.drew ?_ | with_reducible refine below_alloc ?_ _ | ((with_reducible refine Below.setCell ?_ ?_ _); rotate_left; (focus (first | with_reducible exact Nat.le_refl _ | (simp; done) | (simp; omega) | omega))) | (with_reducible refine below_trans ?_ (by assumption)))⟩
theorem thin_pos_S (b m M : Nat) (p : Int) (w : World) (C : Hid (RP b false p false M)) (e2 : bits BinOp.and IntKind.u64 (b : Int) 4503599627370495 = (m : Int)) (h : ((m : Int) != 0) = false) :
    Calls Tryd.prog 44 #[.int .u64 b, .int .i64 24, .int .i64 8] w fun e w' => e = .returned (.tuple #[.int .u64 2139095040, .bool true]) ∧ Below w.heap.size w w' := by
  go_enter Tryd.func44, Tryd.ntmps44
  repeat any_goals (first | (go_at_call 36; with_reducible refine (C.out.c _).mono ?_; rintro e w1 ⟨v1, rfl, hv1, hb1⟩) | go_skip | go_guarded | go_step | go_upon | (dsimp only []))
  go_ret2
  exact ⟨by simp <;> decide, by (repeat first | with_reducible exact Below.refl _ _ | with_reducible assumption | with_reducible refine Below.drew ?_ | with_reducible refine below_alloc ?_ _ | ((with_reducible refine Below.setCell ?_ ?_ _); rotate_left; (focus (first | with_reducible exact Nat.le_refl _ | (simp; done) | (simp; omega) | omega))) | (with_reducible refine below_trans ?_ (by assumption)))⟩
theorem tsV_lt (b : Nat) (hb : b < 18446744073709551616) : tsV b < 4294967296 := by
  unfold tsV
  by_cases c : fe b = 2047
  · rw [if_pos c]
    split <;> omega
  · rw [if_neg c]
    by_cases d : repS (pm b) (pk b) = true
    · rw [if_pos d]; exact (sglOf_back hb c d).1
    · rw [if_neg d]; decide
theorem thin_any_S (b : Nat) (hb : b < 18446744073709551616) (w : World) :
    Calls Tryd.prog 44 #[.int .u64 b, .int .i64 24, .int .i64 8] w fun e w' => e = .returned (.tuple #[.int .u64 (tsV b : Nat), .bool (tsOk b)]) ∧ Below w.heap.size w w' := by
  have C0 := rparts_any b hb
  have e2 := wand52 hb
  by_cases c : fe b = 2047
  · have hfin : fin b = false := by unfold fin; rw [c]; rfl
    have ho : tsOk b = true := by unfold tsOk; rw [c]; rfl
    rw [if_pos c, if_pos c, hfin] at C0
    rw [ho]
    by_cases d : fm b = 0
    · have hv : tsV b = b / 9223372036854775808 * 2147483648 + 2139095040 := by unfold tsV; rw [if_pos c, if_pos d]
      rw [d] at e2
      rw [hv]
      rcases (show b / 9223372036854775808 = 0 ∨ b / 9223372036854775808 = 1 by omega) with h | h
      · rw [h] at C0 ⊢
        exact thin_pos_S b 0 _ _ w (Lib.hid ⟨C0⟩) e2 rfl
      · rw [h] at C0 ⊢
        exact thin_neg_S b 0 _ _ w (Lib.hid ⟨C0⟩) e2 rfl
    · have hv : tsV b = 2143289344 := by unfold tsV; rw [if_pos c, if_neg d]
      rw [hv]
      exact thin_nan_S b (fm b) _ _ _ w (Lib.hid ⟨C0⟩) e2 (by simp; omega)
  · have hfin : fin b = true := by unfold fin; simpa using c
    rw [if_neg c, if_neg c, hfin] at C0
    have hp := @plc_range b
    have hdl : dl (mant b) ≤ 2 := (dl_le_iff _ _).2 (Nat.lt_trans (mant_lt b) (by decide))
    have P := fun (v : Value) (w : World) (h : IsD w v (mant b)) => Pack_S (b / 9223372036854775808 == 1) v _ (mant b) (plc b) w h (by omega) (by omega) (by omega)
    have hS : (if (b / 9223372036854775808 == 1) = true then 2147483648 else 0) = b / 9223372036854775808 * 2147483648 := by
      rcases (show b / 9223372036854775808 = 0 ∨ b / 9223372036854775808 = 1 by omega) with h | h <;> rw [h] <;> rfl
    have hR : repS (mant b / 2 ^ tz (mant b)) (plc b + tz (mant b)) = repS (pm b) (pk b) ∧ encF Ieee.single (mant b / 2 ^ tz (mant b)) (plc b + tz (mant b)) = encF Ieee.single (pm b) (pk b) := by
      have e1 : pm b = mant b / 2 ^ tz (mant b) := by unfold pm; rw [if_neg c]
      rw [← e1]
      by_cases d : mant b = 0
      · have hpm : pm b = 0 := (pm_zero_iff b).2 (.inr d)
        rw [hpm, encF_zero, encF_zero]
        exact ⟨rfl, rfl⟩
      · rw [pk_plc c d]
        exact ⟨rfl, rfl⟩
    rw [hS, hR.1, hR.2] at P
    have hok : tsOk b = repS (pm b) (pk b) := by unfold tsOk; rw [show (fe b == 2047) = false from by simpa using c, Bool.false_or]
    have hv : tsV b = if repS (pm b) (pk b) = true then b / 9223372036854775808 * 2147483648 + encF Ieee.single (pm b) (pk b) else 0 := by unfold tsV; rw [if_neg c]; rfl
    rw [hok, hv]
    exact thin_fin_S b _ _ _ _ _ w (Lib.hid ⟨C0, P⟩)
theorem RToSingle_walk (b V : Nat) (hV : V < 4294967296) (ok : Bool) (w : World) (C : Hid (∀ w : World, Calls Tryd.prog 44 #[.int .u64 b, .int .i64 24, .int .i64 8] w fun e w' => e = .returned (.tuple #[.int .u64 V, .bool ok]) ∧ Below w.heap.size w w')) :
    Calls Tryd.prog 23 #[.int .u64 b] w fun e w' => e = .returned (.tuple #[.int .u32 V, .bool ok]) ∧ Below w.heap.size w w' := by
  have e : IntKind.u32.wrap (V : Int) = V := by rw [IntKind.wrap_u32]; omega
  go_enter Tryd.func23, Tryd.ntmps23
  repeat any_goals (first | (go_at_call 44; refine (C.out _).mono ?_; rintro e w1 ⟨rfl, hb1⟩) | go_skip | go_guarded | go_step | go_upon | (dsimp only []))
  go_ret2
  exact ⟨by simp, by (repeat first | with_reducible exact Below.refl _ _ | with_reducible assumption | with_reducible refine Below.drew ?_ | with_reducible refine below_alloc ?_ _ | ((with_reducible refine Below.setCell ?_ ?_ _); rotate_left; (focus (first | with_reducible exact Nat.le_refl _ | (simp; done) | (simp; omega) | omega))) | (with_reducible refine below_trans ?_ (by assumption)))⟩
/-- **ToSingle.** -/
theorem RToSingle_any (b : Nat) (hb : b < 18446744073709551616) (w : World) :
    Calls Tryd.prog 23 #[.int .u64 b] w fun e w' => e = .returned (.tuple #[.int .u32 (tsV b : Nat), .bool (tsOk b)]) ∧ Below w.heap.size w w' :=
  RToSingle_walk b _ (tsV_lt b hb) _ w (Lib.hid (thin_any_S b hb))
theorem wide_nan_S (s x m : Nat) (g : Int) (w : World) (hx : x ≤ 255) (e1 : bits BinOp.and IntKind.u64 ((s : Int) / 2147483648) 1 = g) (e2 : bits BinOp.and IntKind.u64 ((s : Int) / 8388608) 255 = (x : Int)) (e3 : bits BinOp.and IntKind.u64 (s : Int) 8388607 = (m : Int)) (hx1 : ((x : Int) == 255) = true) (hm : ((m : Int) != 0) = true) :
    Calls Tryd.prog 49 #[.int .u64 s, .int .i64 24, .int .i64 8] w fun e w' => e = .returned (.int .u64 9221120237041090560) ∧ w = w' := by
  go_enter Tryd.func49, Tryd.ntmps49
  repeat any_goals (first | go_skip | go_guarded | go_step | go_upon | (simp only []; done))
  go_ret
  simp
theorem wide_neg_S (s x m : Nat) (g : Int) (w : World) (hx : x ≤ 255) (e1 : bits BinOp.and IntKind.u64 ((s : Int) / 2147483648) 1 = g) (e2 : bits BinOp.and IntKind.u64 ((s : Int) / 8388608) 255 = (x : Int)) (e3 : bits BinOp.and IntKind.u64 (s : Int) 8388607 = (m : Int)) (hx1 : ((x : Int) == 255) = true) (hm : ((m : Int) != 0) = false) (hg : (g == 1) = true) :
    Calls Tryd.prog 49 #[.int .u64 s, .int .i64 24, .int .i64 8] w fun e w' => e = .returned (.int .u64 18442240474082181120) ∧ w = w' := by
  go_enter Tryd.func49, Tryd.ntmps49
  repeat any_goals (first | go_skip | go_guarded | go_step | go_upon | (simp only []; done))
  go_ret
  simp
theorem wide_pos_S (s x m : Nat) (g : Int) (w : World) (hx : x ≤ 255) (e1 : bits BinOp.and IntKind.u64 ((s : Int) / 2147483648) 1 = g) (e2 : bits BinOp.and IntKind.u64 ((s : Int) / 8388608) 255 = (x : Int)) (e3 : bits BinOp.and IntKind.u64 (s : Int) 8388607 = (m : Int)) (hx1 : ((x : Int) == 255) = true) (hm : ((m : Int) != 0) = false) (hg : (g == 1) = false) :
    Calls Tryd.prog 49 #[.int .u64 s, .int .i64 24, .int .i64 8] w fun e w' => e = .returned (.int .u64 9218868437227405312) ∧ w = w' := by
  go_enter Tryd.func49, Tryd.ntmps49
  repeat any_goals (first | go_skip | go_guarded | go_step | go_upon | (simp only []; done))
  go_ret
  simp
structure WdC_S (n : Bool) (M V : Nat) (k : Int) (ok : Bool) : Prop where
  c1 : ∀ w : World, Calls Tryd.prog 60 #[.int .u64 M] w fun e w' => ∃ v, e = .returned v ∧ IsD w' v M ∧ Below w.heap.size w w'
  c2 : ∀ (v : Value) (w : World), IsD w v M → Calls Tryd.prog 57 #[.bool n, v, .int .i64 k, .int .i64 53, .int .i64 11] w fun e w' => e = .returned (.tuple #[.int .u64 V, .bool ok]) ∧ Below w.heap.size w w'
theorem wide_sub_S (s x m : Nat) (g : Int) (w : World) (hx : x ≤ 255) (e1 : bits BinOp.and IntKind.u64 ((s : Int) / 2147483648) 1 = g) (e2 : bits BinOp.and IntKind.u64 ((s : Int) / 8388608) 255 = (x : Int)) (e3 : bits BinOp.and IntKind.u64 (s : Int) 8388607 = (m : Int)) (V : Nat) (n ok : Bool) (hx1 : ((x : Int) == 255) = false) (hx0 : ((x : Int) == 0) = true) (hg : (g == 1) = n) (C : Hid (WdC_S n m V (-149) ok)) :
    Calls Tryd.prog 49 #[.int .u64 s, .int .i64 24, .int .i64 8] w fun e w' => e = .returned (.int .u64 V) ∧ Below w.heap.size w w' := by
  go_enter Tryd.func49, Tryd.ntmps49
  repeat any_goals (first | (go_at_call 60; with_reducible refine (C.out.c1 _).mono ?_; rintro e w1 ⟨v1, rfl, hv1, hb1⟩) | (go_at_call 57; refine (C.out.c2 _ _ hv1).mono ?_; rintro e w2 ⟨rfl, hb2⟩) | go_skip | go_guarded | go_step | go_upon | (dsimp only []))
  go_ret
  exact ⟨by simp, by (repeat first | with_reducible exact Below.refl _ _ | with_reducible assumption | with_reducible refine Below.drew ?_ | with_reducible refine below_alloc ?_ _ | ((with_reducible refine Below.setCell ?_ ?_ _); rotate_left; (focus (first | with_reducible exact Nat.le_refl _ | (simp; done) | (simp; omega) | omega))) | (with_reducible refine below_trans ?_ (by assumption)))⟩
theorem wide_norm_S (s x m : Nat) (g : Int) (w : World) (hx : x ≤ 255) (e1 : bits BinOp.and IntKind.u64 ((s : Int) / 2147483648) 1 = g) (e2 : bits BinOp.and IntKind.u64 ((s : Int) / 8388608) 255 = (x : Int)) (e3 : bits BinOp.and IntKind.u64 (s : Int) 8388607 = (m : Int)) (V M : Nat) (k : Int) (n ok : Bool) (hx1 : ((x : Int) == 255) = false) (hx0 : ((x : Int) == 0) = false) (hg : (g == 1) = n) (eM : bits BinOp.or IntKind.u64 (m : Int) 8388608 = (M : Int)) (ek : (x : Int) - 127 - 24 + 1 = k) (C : Hid (WdC_S n M V k ok)) :
    Calls Tryd.prog 49 #[.int .u64 s, .int .i64 24, .int .i64 8] w fun e w' => e = .returned (.int .u64 V) ∧ Below w.heap.size w w' := by
  go_enter Tryd.func49, Tryd.ntmps49
  repeat any_goals (first | (go_at_call 60; with_reducible refine (C.out.c1 _).mono ?_; rintro e w1 ⟨v1, rfl, hv1, hb1⟩) | (go_at_call 57; refine (C.out.c2 _ _ hv1).mono ?_; rintro e w2 ⟨rfl, hb2⟩) | go_skip | go_guarded | go_step | go_upon | (dsimp only []))
  go_ret
  exact ⟨by simp, by (repeat first | with_reducible exact Below.refl _ _ | with_reducible assumption | with_reducible refine Below.drew ?_ | with_reducible refine below_alloc ?_ _ | ((with_reducible refine Below.setCell ?_ ?_ _); rotate_left; (focus (first | with_reducible exact Nat.le_refl _ | (simp; done) | (simp; omega) | omega))) | (with_reducible refine below_trans ?_ (by assumption)))⟩
structure ThC_H (b : Nat) (g : Bool) (p : Int) (M V : Nat) (ok : Bool) : Prop where
  c1 : ∀ w : World, Calls Tryd.prog 36 #[.int .u64 b] w fun e w' => ∃ v, e = .returned (.tuple #[.bool g, v, .int .i64 p, .bool true]) ∧ IsD w' v M ∧ Below w.heap.size w w'
  c2 : ∀ (v : Value) (w : World), IsD w v M → Calls Tryd.prog 57 #[.bool g, v, .int .i64 p, .int .i64 11, .int .i64 5] w fun e w' => e = .returned (.tuple #[.int .u64 V, .bool ok]) ∧ Below w.heap.size w w'
theorem thin_fin_H (b : Nat) (g : Bool) (p : Int) (M V : Nat) (ok : Bool) (w : World) (C : Hid (ThC_H b g p M V ok)) :
    Calls Tryd.prog 44 #[.int .u64 b, .int .i64 11, .int .i64 5] w fun e w' => e = .returned (.tuple #[.int .u64 V, .bool ok]) ∧ Below w.heap.size w w' := by
  go_enter Tryd.func44, Tryd.ntmps44
  repeat any_goals (first | (go_at_call 36; with_reducible refine (C.out.c1 _).mono ?_; rintro e w1 ⟨v1, rfl, hv1, hb1⟩) | (go_at_call 57; refine (C.out.c2 _ _ hv1).mono ?_; rintro e w2 ⟨rfl, hb2⟩) | go_skip | go_guarded | go_step | go_upon | (dsimp only []))
  go_ret2
  exact ⟨by simp, by (repeat first | with_reducible exact Below.refl _ _ | with_reducible assumption | with_reducible refine Below.drew ?_ | with_reducible refine below_alloc ?_ _ | ((with_reducible refine Below.setCell ?_ ?_ _); rotate_left; (focus (first | with_reducible exact Nat.le_refl _ | (simp; done) | (simp; omega) | omega))) | (with_reducible refine below_trans ?_ (by assumption)))⟩
theorem thin_nan_H (b m M : Nat) (g : Bool) (p : Int) (w : World) (C : Hid (RP b g p false M)) (e2 : bits BinOp.and IntKind.u64 (b : Int) 4503599627370495 = (m : Int)) (h : ((m : Int) != 0) = true) :
    Calls Tryd.prog 44 #[.int .u64 b, .int .i64 11, .int .i64 5] w fun e w' => e = .returned (.tuple #[.int .u64 32256, .bool true]) ∧ Below w.heap.size w w' := by
  go_enter Tryd.func44, Tryd.ntmps44
  repeat any_goals (first | (go_at_call 36; with_reducible refine (C.out.c _).mono ?_; rintro e w1 ⟨v1, rfl, hv1, hb1⟩) | go_skip | go_guarded | go_step | go_upon | (dsimp only []))
  go_ret2
  exact ⟨by simp <;> decide, by (repeat first | with_reducible exact Below.refl _ _ | with_reducible assumption | with_reducible refine Below.drew ?_ | with_reducible refine below_alloc ?_ _ | ((with_reducible refine Below.setCell ?_ ?_ _); rotate_left; (focus (first | with_reducible exact Nat.le_refl _ | (simp; done) | (simp; omega) | omega))) | (with_reducible refine below_trans ?_ (by assumption)))⟩
theorem thin_neg_H (b m M : Nat) (p : Int) (w : World) (C : Hid (RP b true p false M)) (e2 : bits BinOp.and IntKind.u64 (b : Int) 4503599627370495 = (m : Int)) (h : ((m : Int) != 0) = false) :
    Calls Tryd.prog 44 #[.int .u64 b, .int .i64 11, .int .i64 5] w fun e w' => e = .returned (.tuple #[.int .u64 64512, .bool true]) ∧ Below w.heap.size w w' := by
  go_enter Tryd.func44, Tryd.ntmps44
  repeat any_goals (first | (go_at_call 36; with_reducible refine (C.out.c _).mono ?_; rintro e w1 ⟨v1, rfl, hv1, hb1⟩) | go_skip | go_guarded | go_step | go_upon | (dsimp only []))
  go_ret2
  exact ⟨by simp <;> decide, by (repeat first | with_reducible exact Below.refl _ _ | with_reducible assumption | with_reducible refine Below.drew ?_ | with_reducible refine below_alloc ?_ _ | ((with_reducible refine Below.setCell ?_ ?_ _); rotate_left; (focus (first | with_reducible exact Nat.le_refl _ | (simp; done) | (simp; omega) | omega))) | (with_reducible refine below_trans ?_ (by assumption)))⟩
theorem thin_pos_H (b m M : Nat) (p : Int) (w : World) (C : Hid (RP b false p false M)) (e2 : bits BinOp.and IntKind.u64 (b : Int) 4503599627370495 = (m : Int)) (h : ((m : Int) != 0) = false) :
    Calls Tryd.prog 44 #[.int .u64 b, .int .i64 11, .int .i64 5] w fun e w' => e = .returned (.tuple #[.int .u64 31744, .bool true]) ∧ Below w.heap.size w w' := by
  go_enter Tryd.func44, Tryd.ntmps44
  repeat any_goals (first | (go_at_call 36; with_reducible refine (C.out.c _).mono ?_; rintro e w1 ⟨v1, rfl, hv1, hb1⟩) | go_skip | go_guarded | go_step | go_upon | (dsimp only []))
  go_ret2
  exact ⟨by simp <;> decide, by (repeat first | with_reducible exact Below.refl _ _ | with_reducible assumption | with_reducible refine Below.drew ?_ | with_reducible refine below_alloc ?_ _ | ((with_reducible refine Below.setCell ?_ ?_ _); rotate_left; (focus (first | with_reducible exact Nat.le_refl _ | (simp; done) | (simp; omega) | omega))) | (with_reducible refine below_trans ?_ (by assumption)))⟩
theorem thV_lt (b : Nat) (hb : b < 18446744073709551616) : thV b < 65536 := by
  unfold thV
  by_cases c : fe b = 2047
  · rw [if_pos c]
    split <;> omega
  · rw [if_neg c]
    by_cases d : repH (pm b) (pk b) = true
    · rw [if_pos d]; exact (hlfOf_back hb c d).1
    · rw [if_neg d]; decide
theorem thin_any_H (b : Nat) (hb : b < 18446744073709551616) (w : World) :
    Calls Tryd.prog 44 #[.int .u64 b, .int .i64 11, .int .i64 5] w fun e w' => e = .returned (.tuple #[.int .u64 (thV b : Nat), .bool (thOk b)]) ∧ Below w.heap.size w w' := by
  have C0 := rparts_any b hb
  have e2 := wand52 hb
  by_cases c : fe b = 2047
  · have hfin : fin b = false := by unfold fin; rw [c]; rfl
    have ho : thOk b = true := by unfold thOk; rw [c]; rfl
    rw [if_pos c, if_pos c, hfin] at C0
    rw [ho]
    by_cases d : fm b = 0
    · have hv : thV b = b / 9223372036854775808 * 32768 + 31744 := by unfold thV; rw [if_pos c, if_pos d]
      rw [d] at e2
      rw [hv]
      rcases (show b / 9223372036854775808 = 0 ∨ b / 9223372036854775808 = 1 by omega) with h | h
      · rw [h] at C0 ⊢
        exact thin_pos_H b 0 _ _ w (Lib.hid ⟨C0⟩) e2 rfl
      · rw [h] at C0 ⊢
        exact thin_neg_H b 0 _ _ w (Lib.hid ⟨C0⟩) e2 rfl
    · have hv : thV b = 32256 := by unfold thV; rw [if_pos c, if_neg d]
      rw [hv]
      exact thin_nan_H b (fm b) _ _ _ w (Lib.hid ⟨C0⟩) e2 (by simp; omega)
  · have hfin : fin b = true := by unfold fin; simpa using c
    rw [if_neg c, if_neg c, hfin] at C0
    have hp := @plc_range b
    have hdl : dl (mant b) ≤ 2 := (dl_le_iff _ _).2 (Nat.lt_trans (mant_lt b) (by decide))
    have P := fun (v : Value) (w : World) (h : IsD w v (mant b)) => Pack_H (b / 9223372036854775808 == 1) v _ (mant b) (plc b) w h (by omega) (by omega) (by omega)
    have hS : (if (b / 9223372036854775808 == 1) = true then 32768 else 0) = b / 9223372036854775808 * 32768 := by
      rcases (show b / 9223372036854775808 = 0 ∨ b / 9223372036854775808 = 1 by omega) with h | h <;> rw [h] <;> rfl
    have hR : repH (mant b / 2 ^ tz (mant b)) (plc b + tz (mant b)) = repH (pm b) (pk b) ∧ encF halfF (mant b / 2 ^ tz (mant b)) (plc b + tz (mant b)) = encF halfF (pm b) (pk b) := by
      have e1 : pm b = mant b / 2 ^ tz (mant b) := by unfold pm; rw [if_neg c]
      rw [← e1]
      by_cases d : mant b = 0
      · have hpm : pm b = 0 := (pm_zero_iff b).2 (.inr d)
        rw [hpm, encF_zero, encF_zero]
        exact ⟨rfl, rfl⟩
      · rw [pk_plc c d]
        exact ⟨rfl, rfl⟩
    rw [hS, hR.1, hR.2] at P
    have hok : thOk b = repH (pm b) (pk b) := by unfold thOk; rw [show (fe b == 2047) = false from by simpa using c, Bool.false_or]
    have hv : thV b = if repH (pm b) (pk b) = true then b / 9223372036854775808 * 32768 + encF halfF (pm b) (pk b) else 0 := by unfold thV; rw [if_neg c]; rfl
    rw [hok, hv]
    exact thin_fin_H b _ _ _ _ _ w (Lib.hid ⟨C0, P⟩)
theorem RToHalf_walk (b V : Nat) (hV : V < 65536) (ok : Bool) (w : World) (C : Hid (∀ w : World, Calls Tryd.prog 44 #[.int .u64 b, .int .i64 11, .int .i64 5] w fun e w' => e = .returned (.tuple #[.int .u64 V, .bool ok]) ∧ Below w.heap.size w w')) :
    Calls Tryd.prog 25 #[.int .u64 b] w fun e w' => e = .returned (.tuple #[.int .u16 V, .bool ok]) ∧ Below w.heap.size w w' := by
  have e : IntKind.u16.wrap (V : Int) = V := by rw [IntKind.wrap_u16]; omega
  go_enter Tryd.func25, Tryd.ntmps25
  repeat any_goals (first | (go_at_call 44; refine (C.out _).mono ?_; rintro e w1 ⟨rfl, hb1⟩) | go_skip | go_guarded | go_step | go_upon | (dsimp only []))
  go_ret2
  exact ⟨by simp, by (repeat first | with_reducible exact Below.refl _ _ | with_reducible assumption | with_reducible refine Below.drew ?_ | with_reducible refine below_alloc ?_ _ | ((with_reducible refine Below.setCell ?_ ?_ _); rotate_left; (focus (first | with_reducible exact Nat.le_refl _ | (simp; done) | (simp; omega) | omega))) | (with_reducible refine below_trans ?_ (by assumption)))⟩
/-- **ToHalf.** -/
theorem RToHalf_any (b : Nat) (hb : b < 18446744073709551616) (w : World) :
    Calls Tryd.prog 25 #[.int .u64 b] w fun e w' => e = .returned (.tuple #[.int .u16 (thV b : Nat), .bool (thOk b)]) ∧ Below w.heap.size w w' :=
  RToHalf_walk b _ (thV_lt b hb) _ w (Lib.hid (thin_any_H b hb))
theorem wide_nan_H (s x m : Nat) (g : Int) (w : World) (hx : x ≤ 31) (e1 : bits BinOp.and IntKind.u64 ((s : Int) / 32768) 1 = g) (e2 : bits BinOp.and IntKind.u64 ((s : Int) / 1024) 31 = (x : Int)) (e3 : bits BinOp.and IntKind.u64 (s : Int) 1023 = (m : Int)) (hx1 : ((x : Int) == 31) = true) (hm : ((m : Int) != 0) = true) :
    Calls Tryd.prog 49 #[.int .u64 s, .int .i64 11, .int .i64 5] w fun e w' => e = .returned (.int .u64 9221120237041090560) ∧ w = w' := by
  go_enter Tryd.func49, Tryd.ntmps49
  repeat any_goals (first | go_skip | go_guarded | go_step | go_upon | (simp only []; done))
  go_ret
  simp
theorem wide_neg_H (s x m : Nat) (g : Int) (w : World) (hx : x ≤ 31) (e1 : bits BinOp.and IntKind.u64 ((s : Int) / 32768) 1 = g) (e2 : bits BinOp.and IntKind.u64 ((s : Int) / 1024) 31 = (x : Int)) (e3 : bits BinOp.and IntKind.u64 (s : Int) 1023 = (m : Int)) (hx1 : ((x : Int) == 31) = true) (hm : ((m : Int) != 0) = false) (hg : (g == 1) = true) :
    Calls Tryd.prog 49 #[.int .u64 s, .int .i64 11, .int .i64 5] w fun e w' => e = .returned (.int .u64 18442240474082181120) ∧ w = w' := by
  go_enter Tryd.func49, Tryd.ntmps49
  repeat any_goals (first | go_skip | go_guarded | go_step | go_upon | (simp only []; done))
  go_ret
  simp
theorem wide_pos_H (s x m : Nat) (g : Int) (w : World) (hx : x ≤ 31) (e1 : bits BinOp.and IntKind.u64 ((s : Int) / 32768) 1 = g) (e2 : bits BinOp.and IntKind.u64 ((s : Int) / 1024) 31 = (x : Int)) (e3 : bits BinOp.and IntKind.u64 (s : Int) 1023 = (m : Int)) (hx1 : ((x : Int) == 31) = true) (hm : ((m : Int) != 0) = false) (hg : (g == 1) = false) :
    Calls Tryd.prog 49 #[.int .u64 s, .int .i64 11, .int .i64 5] w fun e w' => e = .returned (.int .u64 9218868437227405312) ∧ w = w' := by
  go_enter Tryd.func49, Tryd.ntmps49
  repeat any_goals (first | go_skip | go_guarded | go_step | go_upon | (simp only []; done))
  go_ret
  simp
structure WdC_H (n : Bool) (M V : Nat) (k : Int) (ok : Bool) : Prop where
  c1 : ∀ w : World, Calls Tryd.prog 60 #[.int .u64 M] w fun e w' => ∃ v, e = .returned v ∧ IsD w' v M ∧ Below w.heap.size w w'
  c2 : ∀ (v : Value) (w : World), IsD w v M → Calls Tryd.prog 57 #[.bool n, v, .int .i64 k, .int .i64 53, .int .i64 11] w fun e w' => e = .returned (.tuple #[.int .u64 V, .bool ok]) ∧ Below w.heap.size w w'
theorem wide_sub_H (s x m : Nat) (g : Int) (w : World) (hx : x ≤ 31) (e1 : bits BinOp.and IntKind.u64 ((s : Int) / 32768) 1 = g) (e2 : bits BinOp.and IntKind.u64 ((s : Int) / 1024) 31 = (x : Int)) (e3 : bits BinOp.and IntKind.u64 (s : Int) 1023 = (m : Int)) (V : Nat) (n ok : Bool) (hx1 : ((x : Int) == 31) = false) (hx0 : ((x : Int) == 0) = true) (hg : (g == 1) = n) (C : Hid (WdC_H n m V (-24) ok)) :
    Calls Tryd.prog 49 #[.int .u64 s, .int .i64 11, .int .i64 5] w fun e w' => e = .returned (.int .u64 V) ∧ Below w.heap.size w w' := by
  go_enter Tryd.func49, Tryd.ntmps49
  repeat any_goals (first | (go_at_call 60; with_reducible refine (C.out.c1 _).mono ?_; rintro e w1 ⟨v1, rfl, hv1, hb1⟩) | (go_at_call 57; refine (C.out.c2 _ _ hv1).mono ?_; rintro e w2 ⟨rfl, hb2⟩) | go_skip | go_guarded | go_step | go_upon | (dsimp only []))
  go_ret
  exact ⟨by simp, by (repeat first | with_reducible exact Below.refl _ _ | with_reducible assumption | with_reducible refine Below.drew ?_ | with_reducible refine below_alloc ?_ _ | ((with_reducible refine Below.setCell ?_ ?_ _); rotate_left; (focus (first | with_reducible exact Nat.le_refl _ | (simp; done) | (simp; omega) | omega))) | (with_reducible refine below_trans ?_ (by assumption)))⟩
theorem wide_norm_H (s x m : Nat) (g : Int) (w : World) (hx : x ≤ 31) (e1 : bits BinOp.and IntKind.u64 ((s : Int) / 32768) 1 = g) (e2 : bits BinOp.and IntKind.u64 ((s : Int) / 1024) 31 = (x : Int)) (e3 : bits BinOp.and IntKind.u64 (s : Int) 1023 = (m : Int)) (V M : Nat) (k : Int) (n ok : Bool) (hx1 : ((x : Int) == 31) = false) (hx0 : ((x : Int) == 0) = false) (hg : (g == 1) = n) (eM : bits BinOp.or IntKind.u64 (m : Int) 1024 = (M : Int)) (ek : (x : Int) - 15 - 11 + 1 = k) (C : Hid (WdC_H n M V k ok)) :
    Calls Tryd.prog 49 #[.int .u64 s, .int .i64 11, .int .i64 5] w fun e w' => e = .returned (.int .u64 V) ∧ Below w.heap.size w w' := by
  go_enter Tryd.func49, Tryd.ntmps49
  repeat any_goals (first | (go_at_call 60; with_reducible refine (C.out.c1 _).mono ?_; rintro e w1 ⟨v1, rfl, hv1, hb1⟩) | (go_at_call 57; refine (C.out.c2 _ _ hv1).mono ?_; rintro e w2 ⟨rfl, hb2⟩) | go_skip | go_guarded | go_step | go_upon | (dsimp only []))
  go_ret
  exact ⟨by simp, by (repeat first | with_reducible exact Below.refl _ _ | with_reducible assumption | with_reducible refine Below.drew ?_ | with_reducible refine below_alloc ?_ _ | ((with_reducible refine Below.setCell ?_ ?_ _); rotate_left; (focus (first | with_reducible exact Nat.le_refl _ | (simp; done) | (simp; omega) | omega))) | (with_reducible refine below_trans ?_ (by assumption)))⟩
end Go.Proofs.YtpmfnhcnldoelaaDoor
