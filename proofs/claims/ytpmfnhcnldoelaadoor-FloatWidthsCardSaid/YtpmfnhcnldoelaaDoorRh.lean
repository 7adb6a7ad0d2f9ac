/- Contracts of the document's answer on floats: Half, Single. The law FloatWidths. -/
import Derived.Test.YtpmfnhcnldoelaaDoorRg
namespace Go.Proofs.YtpmfnhcnldoelaaDoor
open Go.RowKit
/-- a float of less bits, its odd part taken out -/
theorem dbl_odd {p : Nat} {k : Int} (h : p = 0 ∨ repD p k) : repDB (p / 2 ^ tz p) (k + tz p) = true ∧ encF Ieee.double (p / 2 ^ tz p) (k + tz p) = encF Ieee.double p k := by
  by_cases c : p = 0
  · subst c
    rw [Nat.zero_div, encF_zero, encF_zero]
    exact ⟨rfl, rfl⟩
  · obtain ⟨h1, h2, h3⟩ : repD p k := by
      rcases h with h | h
      · exact absurd h c
      · exact h
    obtain ⟨hq, hm, hb⟩ := odd_split (Nat.pos_of_ne_zero c)
    refine ⟨repDB_iff.2 (.inr ⟨by omega, by omega, by omega⟩), ?_⟩
    have hsc := encF_scale Ieee.double hq (tz p) (k + (tz p : Int)) (by rw [dblF.1]; omega) (by rw [dblF.2.1]; omega)
    rw [hm, show k + (tz p : Int) - (tz p : Int) = k from by omega] at hsc
    exact hsc.symm
theorem wide_any_S (s : Nat) (hs : s < 4294967296) (w : World) :
    Calls Tryd.prog 49 #[.int .u64 s, .int .i64 24, .int .i64 8] w fun e w' => e = .returned (.int .u64 (singleV s : Nat)) ∧ Below w.heap.size w w' := by
  have e1 : bits BinOp.and IntKind.u64 ((s : Int) / 2147483648) 1 = ((s / 2147483648 : Nat) : Int) := by
    have e := u64_and_nat (s / 2147483648) 1 (by omega) (by decide)
    rw [Nat.and_one_is_mod, Nat.mod_eq_of_lt (by omega)] at e
    rw [show ((s : Int) / 2147483648) = ((s / 2147483648 : Nat) : Int) from by omega]
    exact e
  have e2 : bits BinOp.and IntKind.u64 ((s : Int) / 8388608) 255 = ((sE s : Nat) : Int) := by
    have e := u64_and_nat (s / 8388608) 255 (by omega) (by decide)
    rw [show (s / 8388608 &&& 255) = sE s from Nat.and_two_pow_sub_one_eq_mod _ 8] at e
    rw [show ((s : Int) / 8388608) = ((s / 8388608 : Nat) : Int) from by omega]
    exact e
  have e3 : bits BinOp.and IntKind.u64 (s : Int) 8388607 = ((sM s : Nat) : Int) := by
    have e := u64_and_nat s 8388607 (by omega) (by decide)
    rw [show (s &&& 8388607) = sM s from Nat.and_two_pow_sub_one_eq_mod _ 23] at e
    exact e
  have hx : sE s ≤ 255 := sE_le s
  have hml : sM s < 8388608 := by unfold sM; omega
  have hg : (((s / 2147483648 : Nat) : Int) == 1) = (s / 2147483648 == 1) := by
    generalize s / 2147483648 = y
    rw [Bool.eq_iff_iff]
    simp
    omega
  have hsg := (show s / 2147483648 = 0 ∨ s / 2147483648 = 1 by omega)
  by_cases c : sE s = 255
  · have hx1 : (((sE s : Nat) : Int) == 255) = true := by rw [c]; rfl
    by_cases d : sM s = 0
    · have hm : (((sM s : Nat) : Int) != 0) = false := by rw [d]; rfl
      have hv : singleV s = s / 2147483648 * 9223372036854775808 + 9218868437227405312 := by unfold singleV; rw [if_pos c, if_pos d]
      rw [hv]
      rcases hsg with h | h
      · rw [h] at e1 hg ⊢
        exact (wide_pos_S s _ _ _ w hx e1 e2 e3 hx1 hm hg).mono fun _ _ ⟨h1, h2⟩ => ⟨h1, h2 ▸ Below.refl _ _⟩
      · rw [h] at e1 hg ⊢
        exact (wide_neg_S s _ _ _ w hx e1 e2 e3 hx1 hm hg).mono fun _ _ ⟨h1, h2⟩ => ⟨h1, h2 ▸ Below.refl _ _⟩
    · have hm : (((sM s : Nat) : Int) != 0) = true := by simp; omega
      have hv : singleV s = 9221120237041090560 := by unfold singleV; rw [if_pos c, if_neg d]
      rw [hv]
      exact (wide_nan_S s _ _ _ w hx e1 e2 e3 hx1 hm).mono fun _ _ ⟨h1, h2⟩ => ⟨h1, h2 ▸ Below.refl _ _⟩
  · have hx1 : (((sE s : Nat) : Int) == 255) = false := by simp; omega
    have hf : sE s ≠ 255 := c
    have hrep : sP s = 0 ∨ repD (sP s) (sK s) := by
      rcases Nat.eq_zero_or_pos (sP s) with h1 | h1
      · exact .inl h1
      · exact .inr (sgl_repD h1 hf)
    obtain ⟨o1, o2⟩ := dbl_odd hrep
    have hP64 : sP s < 18446744073709551616 := by unfold sP; split <;> omega
    have hdl : dl (sP s) ≤ 2 := (dl_le_iff _ _).2 hP64
    have hkb : -3000 ≤ sK s ∧ sK s ≤ 3000 := by unfold sK; split <;> omega
    have P := fun (v : Value) (w : World) (h : IsD w v (sP s)) => Pack_D (s / 2147483648 == 1) v _ (sP s) (sK s) w h (by omega) hkb.1 hkb.2
    have hS : (if (s / 2147483648 == 1) = true then 9223372036854775808 else 0) = s / 2147483648 * 9223372036854775808 := by
      rcases hsg with h | h <;> rw [h] <;> rfl
    rw [o1, if_pos rfl, o2, hS] at P
    have hv : singleV s = s / 2147483648 * 9223372036854775808 + encF Ieee.double (sP s) (sK s) := by unfold singleV; rw [if_neg c]
    rw [hv]
    have C1 : ∀ w : World, Calls Tryd.prog 60 #[.int .u64 (sP s : Nat)] w fun e w' => ∃ v, e = .returned v ∧ IsD w' v (sP s) ∧ Below w.heap.size w w' := fun w => Small_any _ hP64 w
    by_cases d : sE s = 0
    · have hx0 : (((sE s : Nat) : Int) == 0) = true := by rw [d]; rfl
      have eP : sP s = sM s := by unfold sP; rw [if_pos d]
      have eK : sK s = -149 := by unfold sK; rw [if_pos d]; rfl
      rw [eP, eK] at P ⊢
      rw [eP] at C1
      exact wide_sub_S s _ _ _ w hx e1 e2 e3 _ _ _ hx1 hx0 hg (Lib.hid ⟨C1, P⟩)
    · have hx0 : (((sE s : Nat) : Int) == 0) = false := by simp; omega
      have eP : sP s = sM s + 8388608 := by unfold sP; rw [if_neg d]
      have eK : (sE s : Int) - 127 - 24 + 1 = sK s := by unfold sK; rw [if_neg d]; omega
      have eM : bits BinOp.or IntKind.u64 ((sM s : Nat) : Int) 8388608 = ((sP s : Nat) : Int) := by
        have e := u64_or_nat (sM s) 8388608 (by omega) (by decide)
        rw [Nat.or_comm, nat_join 23 8388608 _ (by decide) hml, Nat.add_comm, ← eP] at e
        exact e
      exact wide_norm_S s _ _ _ w hx e1 e2 e3 _ _ _ _ _ hx1 hx0 hg eM eK (Lib.hid ⟨C1, P⟩)
theorem RSingle_walk (s V : Nat) (hs : s < 4294967296) (w : World) (C : Hid (∀ w : World, Calls Tryd.prog 49 #[.int .u64 s, .int .i64 24, .int .i64 8] w fun e w' => e = .returned (.int .u64 V) ∧ Below w.heap.size w w')) :
    Calls Tryd.prog 29 #[.int .u32 s] w fun e w' => e = .returned (.int .u64 V) ∧ Below w.heap.size w w' := by
  go_enter Tryd.func29, Tryd.ntmps29
  repeat any_goals (first | (go_at_call 49; refine (C.out _).mono ?_; rintro e w1 ⟨rfl, hb1⟩) | go_skip | go_guarded | go_step | go_upon | (dsimp only []))
  go_ret
  exact ⟨by simp, by (repeat first | with_reducible exact Below.refl _ _ | with_reducible assumption | with_reducible refine Below.drew ?_ | with_reducible refine below_alloc ?_ _ | ((with_reducible refine Below.setCell ?_ ?_ _); rotate_left; (focus (first | with_reducible exact Nat.le_refl _ | (simp; done) | (simp; omega) | omega))) | (with_reducible refine below_trans ?_ (by assumption)))⟩
/-- **Single.** -/
theorem RSingle_any (s : Nat) (hs : s < 4294967296) (w : World) :
    Calls Tryd.prog 29 #[.int .u32 s] w fun e w' => e = .returned (.int .u64 (singleV s : Nat)) ∧ Below w.heap.size w w' :=
  RSingle_walk s _ hs w (Lib.hid (wide_any_S s hs))
theorem wide_any_H (s : Nat) (hs : s < 65536) (w : World) :
    Calls Tryd.prog 49 #[.int .u64 s, .int .i64 11, .int .i64 5] w fun e w' => e = .returned (.int .u64 (halfV s : Nat)) ∧ Below w.heap.size w w' := by
  have e1 : bits BinOp.and IntKind.u64 ((s : Int) / 32768) 1 = ((s / 32768 : Nat) : Int) := by
    have e := u64_and_nat (s / 32768) 1 (by omega) (by decide)
    rw [Nat.and_one_is_mod, Nat.mod_eq_of_lt (by omega)] at e
    rw [show ((s : Int) / 32768) = ((s / 32768 : Nat) : Int) from by omega]
    exact e
  have e2 : bits BinOp.and IntKind.u64 ((s : Int) / 1024) 31 = ((hE s : Nat) : Int) := by
    have e := u64_and_nat (s / 1024) 31 (by omega) (by decide)
    rw [show (s / 1024 &&& 31) = hE s from Nat.and_two_pow_sub_one_eq_mod _ 5] at e
    rw [show ((s : Int) / 1024) = ((s / 1024 : Nat) : Int) from by omega]
    exact e
  have e3 : bits BinOp.and IntKind.u64 (s : Int) 1023 = ((hM s : Nat) : Int) := by
    have e := u64_and_nat s 1023 (by omega) (by decide)
    rw [show (s &&& 1023) = hM s from Nat.and_two_pow_sub_one_eq_mod _ 10] at e
    exact e
  have hx : hE s ≤ 31 := hE_le s
  have hml : hM s < 1024 := by unfold hM; omega
  have hg : (((s / 32768 : Nat) : Int) == 1) = (s / 32768 == 1) := by
    generalize s / 32768 = y
    rw [Bool.eq_iff_iff]
    simp
    omega
  have hsg := (show s / 32768 = 0 ∨ s / 32768 = 1 by omega)
  by_cases c : hE s = 31
  · have hx1 : (((hE s : Nat) : Int) == 31) = true := by rw [c]; rfl
    by_cases d : hM s = 0
    · have hm : (((hM s : Nat) : Int) != 0) = false := by rw [d]; rfl
      have hv : halfV s = s / 32768 * 9223372036854775808 + 9218868437227405312 := by unfold halfV; rw [if_pos c, if_pos d]
      rw [hv]
      rcases hsg with h | h
      · rw [h] at e1 hg ⊢
        exact (wide_pos_H s _ _ _ w hx e1 e2 e3 hx1 hm hg).mono fun _ _ ⟨h1, h2⟩ => ⟨h1, h2 ▸ Below.refl _ _⟩
      · rw [h] at e1 hg ⊢
        exact (wide_neg_H s _ _ _ w hx e1 e2 e3 hx1 hm hg).mono fun _ _ ⟨h1, h2⟩ => ⟨h1, h2 ▸ Below.refl _ _⟩
    · have hm : (((hM s : Nat) : Int) != 0) = true := by simp; omega
      have hv : halfV s = 9221120237041090560 := by unfold halfV; rw [if_pos c, if_neg d]
      rw [hv]
      exact (wide_nan_H s _ _ _ w hx e1 e2 e3 hx1 hm).mono fun _ _ ⟨h1, h2⟩ => ⟨h1, h2 ▸ Below.refl _ _⟩
  · have hx1 : (((hE s : Nat) : Int) == 31) = false := by simp; omega
    have hf : hE s ≠ 31 := c
    have hrep : hP s = 0 ∨ repD (hP s) (hK s) := by
      rcases Nat.eq_zero_or_pos (hP s) with h1 | h1
      · exact .inl h1
      · exact .inr (hlf_repD s)
    obtain ⟨o1, o2⟩ := dbl_odd hrep
    have hP64 : hP s < 18446744073709551616 := by unfold hP; split <;> omega
    have hdl : dl (hP s) ≤ 2 := (dl_le_iff _ _).2 hP64
    have hkb : -3000 ≤ hK s ∧ hK s ≤ 3000 := by unfold hK; split <;> omega
    have P := fun (v : Value) (w : World) (h : IsD w v (hP s)) => Pack_D (s / 32768 == 1) v _ (hP s) (hK s) w h (by omega) hkb.1 hkb.2
    have hS : (if (s / 32768 == 1) = true then 9223372036854775808 else 0) = s / 32768 * 9223372036854775808 := by
      rcases hsg with h | h <;> rw [h] <;> rfl
    rw [o1, if_pos rfl, o2, hS] at P
    have hv : halfV s = s / 32768 * 9223372036854775808 + encF Ieee.double (hP s) (hK s) := by unfold halfV; rw [if_neg c]
    rw [hv]
    have C1 : ∀ w : World, Calls Tryd.prog 60 #[.int .u64 (hP s : Nat)] w fun e w' => ∃ v, e = .returned v ∧ IsD w' v (hP s) ∧ Below w.heap.size w w' := fun w => Small_any _ hP64 w
    by_cases d : hE s = 0
    · have hx0 : (((hE s : Nat) : Int) == 0) = true := by rw [d]; rfl
      have eP : hP s = hM s := by unfold hP; rw [if_pos d]
      have eK : hK s = -24 := by unfold hK; rw [if_pos d]
      rw [eP, eK] at P ⊢
      rw [eP] at C1
      exact wide_sub_H s _ _ _ w hx e1 e2 e3 _ _ _ hx1 hx0 hg (Lib.hid ⟨C1, P⟩)
    · have hx0 : (((hE s : Nat) : Int) == 0) = false := by simp; omega
      have eP : hP s = hM s + 1024 := by unfold hP; rw [if_neg d]
      have eK : (hE s : Int) - 15 - 11 + 1 = hK s := by unfold hK; rw [if_neg d]; omega
      have eM : bits BinOp.or IntKind.u64 ((hM s : Nat) : Int) 1024 = ((hP s : Nat) : Int) := by
        have e := u64_or_nat (hM s) 1024 (by omega) (by decide)
        rw [Nat.or_comm, nat_join 10 1024 _ (by decide) hml, Nat.add_comm, ← eP] at e
        exact e
      exact wide_norm_H s _ _ _ w hx e1 e2 e3 _ _ _ _ _ hx1 hx0 hg eM eK (Lib.hid ⟨C1, P⟩)
theorem RHalf_walk (s V : Nat) (hs : s < 65536) (w : World) (C : Hid (∀ w : World, Calls Tryd.prog 49 #[.int .u64 s, .int .i64 11, .int .i64 5] w fun e w' => e = .returned (.int .u64 V) ∧ Below w.heap.size w w')) :
    Calls Tryd.prog 27 #[.int .u16 s] w fun e w' => e = .returned (.int .u64 V) ∧ Below w.heap.size w w' := by
  go_enter Tryd.func27, Tryd.ntmps27
  repeat any_goals (first | (go_at_call 49; refine (C.out _).mono ?_; rintro e w1 ⟨rfl, hb1⟩) | go_skip | go_guarded | go_step | go_upon | (dsimp only []))
  go_ret
  exact ⟨by simp, by (repeat first | with_reducible exact Below.refl _ _ | with_reducible assumption | with_reducible refine Below.drew ?_ | with_reducible refine below_alloc ?_ _ | ((with_reducible refine Below.setCell ?_ ?_ _); rotate_left; (focus (first | with_reducible exact Nat.le_refl _ | (simp; done) | (simp; omega) | omega))) | (with_reducible refine below_trans ?_ (by assumption)))⟩
/-- **Half.** -/
theorem RHalf_any (s : Nat) (hs : s < 65536) (w : World) :
    Calls Tryd.prog 27 #[.int .u16 s] w fun e w' => e = .returned (.int .u64 (halfV s : Nat)) ∧ Below w.heap.size w w' :=
  RHalf_walk s _ hs w (Lib.hid (wide_any_H s hs))
/-- what the calls answer -/
structure WiCalls (b h s a c X Y : Nat) (p r : Bool) : Prop where
  c1 : ∀ w : World, Tab w → Calls Tryd.prog 22 #[.int .u64 b] w fun e w' => e = .returned (.tuple #[.int .u32 a, .bool p]) ∧ Below w.heap.size w w'
  c2 : ∀ w : World, Calls Tryd.prog 23 #[.int .u64 b] w fun e w' => e = .returned (.tuple #[.int .u32 a, .bool p]) ∧ Below w.heap.size w w'
  c3 : ∀ w : World, Tab w → Calls Tryd.prog 24 #[.int .u64 b] w fun e w' => e = .returned (.tuple #[.int .u16 c, .bool r]) ∧ Below w.heap.size w w'
  c4 : ∀ w : World, Calls Tryd.prog 25 #[.int .u64 b] w fun e w' => e = .returned (.tuple #[.int .u16 c, .bool r]) ∧ Below w.heap.size w w'
  c5 : ∀ w : World, Calls Tryd.prog 26 #[.int .u16 h] w fun e w' => e = .returned (.int .u64 X) ∧ w = w'
  c6 : ∀ w : World, Calls Tryd.prog 27 #[.int .u16 h] w fun e w' => e = .returned (.int .u64 X) ∧ Below w.heap.size w w'
  c7 : ∀ w : World, Tab w → Calls Tryd.prog 28 #[.int .u32 s] w fun e w' => e = .returned (.int .u64 Y) ∧ Below w.heap.size w w'
  c8 : ∀ w : World, Calls Tryd.prog 29 #[.int .u32 s] w fun e w' => e = .returned (.int .u64 Y) ∧ Below w.heap.size w w'
set_option maxHeartbeats 1600000 in
theorem Widths_walk (b h s a c X Y : Nat) (p r : Bool) (w : World) (hT : Tab w) (C : Hid (WiCalls b h s a c X Y p r)) :
    Calls Tryd.prog 4 #[.int .u64 b, .int .u16 h, .int .u32 s] w fun e w' => e = .returned (.bool true) ∧ Below w.heap.size w w' := by
  go_enter Tryd.func4, Tryd.ntmps4
  repeat any_goals (first | (go_at_call 22; with_reducible refine (C.out.c1 _ hT).mono ?_; rintro e w1 ⟨rfl, hb1⟩) | (go_at_call 23; with_reducible refine (C.out.c2 _).mono ?_; rintro e w2 ⟨rfl, hb2⟩) | (go_at_call 24; with_reducible refine (C.out.c3 _ ((hT.below hb1).below hb2)).mono ?_; rintro e w3 ⟨rfl, hb3⟩) | (go_at_call 25; with_reducible refine (C.out.c4 _).mono ?_; rintro e w4 ⟨rfl, hb4⟩) | (go_at_call 13; with_reducible refine (told_any _ ((((hT.below hb1).below hb2).below hb3).below hb4)).mono ?_; rintro e w5 ⟨rfl, hb5⟩) | (go_at_call 26; with_reducible refine (C.out.c5 _).mono ?_; rintro e w' ⟨rfl, rfl⟩) | (go_at_call 27; with_reducible refine (C.out.c6 _).mono ?_; rintro e w6 ⟨rfl, hb6⟩) | (go_at_call 28; with_reducible refine (C.out.c7 _ ((((((hT.below hb1).below hb2).below hb3).below hb4).below hb5).below hb6)).mono ?_; rintro e w7 ⟨rfl, hb7⟩) | (go_at_call 29; with_reducible refine (C.out.c8 _).mono ?_; rintro e w8 ⟨rfl, hb8⟩) | go_skip | go_guarded | go_step | go_upon | (dsimp only []))
  all_goals (go_ret; exact ⟨by first | (simp; done) | (simp; omega), by (repeat first | with_reducible exact Below.refl _ _ | with_reducible assumption | with_reducible refine Below.drew ?_ | with_reducible refine below_alloc ?_ _ | ((with_reducible refine Below.setCell ?_ ?_ _); rotate_left; (focus (first | with_reducible exact Nat.le_refl _ | (simp; done) | (simp; omega) | omega))) | (with_reducible refine below_trans ?_ (by assumption)))⟩)
/-- **FloatWidths.** -/
theorem Widths_any (b h s : Nat) (hb : b < 18446744073709551616) (hh : h < 65536) (hs : s < 4294967296) (w : World) (hT : Tab w) :
    Calls Tryd.prog 4 #[.int .u64 b, .int .u16 h, .int .u32 s] w fun e w' => e = .returned (.bool true) ∧ Below w.heap.size w w' :=
  Widths_walk b h s _ _ _ _ _ _ w hT (Lib.hid ⟨ToSingle_any b hb, RToSingle_any b hb, ToHalf_any b hb, RToHalf_any b hb, Half_any h hh, RHalf_any h hh, Single_any s hs, RSingle_any s hs⟩)
end Go.Proofs.YtpmfnhcnldoelaaDoor
