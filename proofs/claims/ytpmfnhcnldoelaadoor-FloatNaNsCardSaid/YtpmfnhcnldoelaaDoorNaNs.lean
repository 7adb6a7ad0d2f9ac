/- The law FloatNaNs. -/
import Derived.Test.YtpmfnhcnldoelaaDoorToldA
namespace Go.Proofs.YtpmfnhcnldoelaaDoor
open Go.RowKit
theorem nan_cls (b : Nat) (hb : b < 18446744073709551616) (h1 : fe b = 2047) (h2 : fm b ≠ 0) (w : World) (hT : Tab w) : Calls Tryd.prog 14 #[.int .u64 b] w fun e w' => e = .returned (.int .i64 16) ∧ Below w.heap.size w w' := by
  have h := Class_any b hb w hT
  have e : cls b = 16 := by simpa using nan_16 h1 h2
  rw [e] at h
  exact h
theorem nan_sgl (b : Nat) (hb : b < 18446744073709551616) (h1 : fe b = 2047) (h2 : fm b ≠ 0) (w : World) (hT : Tab w) : Calls Tryd.prog 22 #[.int .u64 b] w fun e w' => e = .returned (.tuple #[.int .u32 2143289344, .bool true]) ∧ Below w.heap.size w w' :=
  ToSingle_nan b hb w hT (by simpa using nan_16 h1 h2)
theorem nan_hlf (b : Nat) (hb : b < 18446744073709551616) (h1 : fe b = 2047) (h2 : fm b ≠ 0) (w : World) (hT : Tab w) : Calls Tryd.prog 24 #[.int .u64 b] w fun e w' => e = .returned (.tuple #[.int .u16 32256, .bool true]) ∧ Below w.heap.size w w' := by
  have h := ToHalf_any b hb w hT
  have e1 : thV b = 32256 := by unfold thV; rw [if_pos h1, if_neg h2]
  have e2 : thOk b = true := by unfold thOk; rw [h1]; rfl
  rw [e1, e2] at h
  exact h
theorem nan_canon (b : Nat) (hb : b < 18446744073709551616) (h1 : fe b = 2047) (h2 : fm b ≠ 0) (w : World) (hT : Tab w) : Calls Tryd.prog 18 #[.int .u64 b] w fun e w' => e = .returned (.int .u64 9221120237041090560) ∧ Below w.heap.size w w' := by
  have h := Canon_any b hb w hT
  have e : cls b = 16 := by simpa using nan_16 h1 h2
  have e1 : canonF b = 9221120237041090560 := by unfold canonF; rw [e]; rfl
  rw [e1] at h
  exact h
theorem nan_may (b : Nat) (hb : b < 18446744073709551616) (h1 : fe b = 2047) (h2 : fm b ≠ 0) (w : World) (hT : Tab w) : Calls Tryd.prog 16 #[.int .u64 b] w fun e w' => e = .returned (.bool ((b : Int) == 9221120237041090560)) ∧ Below w.heap.size w w' := by
  have h := MayF_any b hb w hT
  have e : cls b = 16 := by simpa using nan_16 h1 h2
  have e1 : mayF b = ((b : Int) == 9221120237041090560) := by
    unfold mayF
    rw [e]
    by_cases c : b = 9221120237041090560
    · subst c; rfl
    · have c1 : (b == 9221120237041090560) = false := by simpa using c
      have c2 : ((b : Int) == 9221120237041090560) = false := by simp; omega
      rw [c1, c2]
      rfl
  rw [e1] at h
  exact h
theorem nan_half (w : World) : Calls Tryd.prog 26 #[.int .u16 32256] w fun e w' => e = .returned (.int .u64 9221120237041090560) ∧ w = w' := by
  have h := Half_any 32256 (by decide) w
  rw [show halfV 32256 = 9221120237041090560 from by decide +kernel] at h
  exact h
theorem nan_single (w : World) (hT : Tab w) : Calls Tryd.prog 28 #[.int .u32 2143289344] w fun e w' => e = .returned (.int .u64 9221120237041090560) ∧ Below w.heap.size w w' := by
  have h := Single_any 2143289344 (by decide) w hT
  rw [show singleV 2143289344 = 9221120237041090560 from by decide +kernel] at h
  exact h
set_option maxHeartbeats 800000 in
theorem NaNs_a (m f b : Nat) (hm : m < 18446744073709551616) (w : World) (hT : Tab w) (e1 : bits BinOp.and IntKind.u64 (m : Int) 4503599627370495 = (f : Int)) (e2 : bits BinOp.or IntKind.u64 9218868437227405312 (f : Int) = (b : Int)) (hf : ((f : Int) == 0) = false)
    (hb : b < 18446744073709551616) (h1 : fe b = 2047) (h2 : fm b ≠ 0) :
    Calls Tryd.prog 9 #[.int .u64 m, .bool false] w fun e w' => e = .returned (.bool true) ∧ Below w.heap.size w w' := by
  have c1 := nan_sgl b hb h1 h2
  have c2 := nan_hlf b hb h1 h2
  have c3 := nan_canon b hb h1 h2
  have c4 := nan_cls b hb h1 h2
  have c5 := nan_may b hb h1 h2
  have C := Lib.hid (And.intro c1 (And.intro c2 (And.intro c3 (And.intro c4 c5))))
  clear c1 c2 c3 c4 c5 h1 h2
  go_enter Tryd.func9, Tryd.ntmps9
  repeat any_goals (first | (go_at_call 22; refine (C.out.1 _ hT).mono ?_; rintro e w1 ⟨rfl, hb1⟩) | (go_at_call 24; refine (C.out.2.1 _ (hT.below hb1)).mono ?_; rintro e w2 ⟨rfl, hb2⟩) | (go_at_call 13; refine (told_any _ ((hT.below hb1).below hb2)).mono ?_; rintro e w3 ⟨rfl, hb3⟩) | (go_at_call 18; refine (C.out.2.2.1 _ (((hT.below hb1).below hb2).below hb3)).mono ?_; rintro e w4 ⟨rfl, hb4⟩) | (go_at_call 14; refine (C.out.2.2.2.1 _ ((((hT.below hb1).below hb2).below hb3).below hb4)).mono ?_; rintro e w5 ⟨rfl, hb5⟩) | (go_at_call 16; refine (C.out.2.2.2.2 _ (((((hT.below hb1).below hb2).below hb3).below hb4).below hb5)).mono ?_; rintro e w6 ⟨rfl, hb6⟩) | (go_at_call 28; refine (nan_single _ ((((((hT.below hb1).below hb2).below hb3).below hb4).below hb5).below hb6)).mono ?_; rintro e w7 ⟨rfl, hb7⟩) | (go_at_call 26; refine (nan_half _).mono ?_; rintro e w' ⟨rfl, rfl⟩) | go_skip | go_guarded | go_step | go_upon | (dsimp only []))
  go_ret
  exact ⟨by simp, by (repeat first | with_reducible exact Below.refl _ _ | with_reducible assumption | with_reducible refine Below.drew ?_ | with_reducible refine below_alloc ?_ _ | ((with_reducible refine Below.setCell ?_ ?_ _); rotate_left; (focus (first | with_reducible exact Nat.le_refl _ | (simp; done) | (simp; omega) | omega))) | (with_reducible refine below_trans ?_ (by assumption)))⟩
set_option maxHeartbeats 800000 in
theorem NaNs_b (m f v b : Nat) (hm : m < 18446744073709551616) (w : World) (hT : Tab w) (e1 : bits BinOp.and IntKind.u64 (m : Int) 4503599627370495 = (f : Int)) (e2 : bits BinOp.or IntKind.u64 9218868437227405312 (f : Int) = (v : Int)) (hf : ((f : Int) == 0) = false) (e3 : bits BinOp.or IntKind.u64 (v : Int) 9223372036854775808 = (b : Int))
    (hb : b < 18446744073709551616) (h1 : fe b = 2047) (h2 : fm b ≠ 0) :
    Calls Tryd.prog 9 #[.int .u64 m, .bool true] w fun e w' => e = .returned (.bool true) ∧ Below w.heap.size w w' := by
  have c1 := nan_sgl b hb h1 h2
  have c2 := nan_hlf b hb h1 h2
  have c3 := nan_canon b hb h1 h2
  have c4 := nan_cls b hb h1 h2
  have c5 := nan_may b hb h1 h2
  have C := Lib.hid (And.intro c1 (And.intro c2 (And.intro c3 (And.intro c4 c5))))
  clear c1 c2 c3 c4 c5 h1 h2
  go_enter Tryd.func9, Tryd.ntmps9
  repeat any_goals (first | (go_at_call 22; refine (C.out.1 _ hT).mono ?_; rintro e w1 ⟨rfl, hb1⟩) | (go_at_call 24; refine (C.out.2.1 _ (hT.below hb1)).mono ?_; rintro e w2 ⟨rfl, hb2⟩) | (go_at_call 13; refine (told_any _ ((hT.below hb1).below hb2)).mono ?_; rintro e w3 ⟨rfl, hb3⟩) | (go_at_call 18; refine (C.out.2.2.1 _ (((hT.below hb1).below hb2).below hb3)).mono ?_; rintro e w4 ⟨rfl, hb4⟩) | (go_at_call 14; refine (C.out.2.2.2.1 _ ((((hT.below hb1).below hb2).below hb3).below hb4)).mono ?_; rintro e w5 ⟨rfl, hb5⟩) | (go_at_call 16; refine (C.out.2.2.2.2 _ (((((hT.below hb1).below hb2).below hb3).below hb4).below hb5)).mono ?_; rintro e w6 ⟨rfl, hb6⟩) | (go_at_call 28; refine (nan_single _ ((((((hT.below hb1).below hb2).below hb3).below hb4).below hb5).below hb6)).mono ?_; rintro e w7 ⟨rfl, hb7⟩) | (go_at_call 26; refine (nan_half _).mono ?_; rintro e w' ⟨rfl, rfl⟩) | go_skip | go_guarded | go_step | go_upon | (dsimp only []))
  go_ret
  exact ⟨by simp, by (repeat first | with_reducible exact Below.refl _ _ | with_reducible assumption | with_reducible refine Below.drew ?_ | with_reducible refine below_alloc ?_ _ | ((with_reducible refine Below.setCell ?_ ?_ _); rotate_left; (focus (first | with_reducible exact Nat.le_refl _ | (simp; done) | (simp; omega) | omega))) | (with_reducible refine below_trans ?_ (by assumption)))⟩
set_option maxHeartbeats 800000 in
theorem NaNs_c (m f v b : Nat) (hm : m < 18446744073709551616) (w : World) (hT : Tab w) (e1 : bits BinOp.and IntKind.u64 (m : Int) 4503599627370495 = (f : Int)) (e2 : bits BinOp.or IntKind.u64 9218868437227405312 (f : Int) = (v : Int)) (hf : ((f : Int) == 0) = true) (e3 : bits BinOp.or IntKind.u64 (v : Int) 1 = (b : Int))
    (hb : b < 18446744073709551616) (h1 : fe b = 2047) (h2 : fm b ≠ 0) :
    Calls Tryd.prog 9 #[.int .u64 m, .bool false] w fun e w' => e = .returned (.bool true) ∧ Below w.heap.size w w' := by
  have c1 := nan_sgl b hb h1 h2
  have c2 := nan_hlf b hb h1 h2
  have c3 := nan_canon b hb h1 h2
  have c4 := nan_cls b hb h1 h2
  have c5 := nan_may b hb h1 h2
  have C := Lib.hid (And.intro c1 (And.intro c2 (And.intro c3 (And.intro c4 c5))))
  clear c1 c2 c3 c4 c5 h1 h2
  go_enter Tryd.func9, Tryd.ntmps9
  repeat any_goals (first | (go_at_call 22; refine (C.out.1 _ hT).mono ?_; rintro e w1 ⟨rfl, hb1⟩) | (go_at_call 24; refine (C.out.2.1 _ (hT.below hb1)).mono ?_; rintro e w2 ⟨rfl, hb2⟩) | (go_at_call 13; refine (told_any _ ((hT.below hb1).below hb2)).mono ?_; rintro e w3 ⟨rfl, hb3⟩) | (go_at_call 18; refine (C.out.2.2.1 _ (((hT.below hb1).below hb2).below hb3)).mono ?_; rintro e w4 ⟨rfl, hb4⟩) | (go_at_call 14; refine (C.out.2.2.2.1 _ ((((hT.below hb1).below hb2).below hb3).below hb4)).mono ?_; rintro e w5 ⟨rfl, hb5⟩) | (go_at_call 16; refine (C.out.2.2.2.2 _ (((((hT.below hb1).below hb2).below hb3).below hb4).below hb5)).mono ?_; rintro e w6 ⟨rfl, hb6⟩) | (go_at_call 28; refine (nan_single _ ((((((hT.below hb1).below hb2).below hb3).below hb4).below hb5).below hb6)).mono ?_; rintro e w7 ⟨rfl, hb7⟩) | (go_at_call 26; refine (nan_half _).mono ?_; rintro e w' ⟨rfl, rfl⟩) | go_skip | go_guarded | go_step | go_upon | (dsimp only []))
  go_ret
  exact ⟨by simp, by (repeat first | with_reducible exact Below.refl _ _ | with_reducible assumption | with_reducible refine Below.drew ?_ | with_reducible refine below_alloc ?_ _ | ((with_reducible refine Below.setCell ?_ ?_ _); rotate_left; (focus (first | with_reducible exact Nat.le_refl _ | (simp; done) | (simp; omega) | omega))) | (with_reducible refine below_trans ?_ (by assumption)))⟩
set_option maxHeartbeats 800000 in
theorem NaNs_d (m f v v2 b : Nat) (hm : m < 18446744073709551616) (w : World) (hT : Tab w) (e1 : bits BinOp.and IntKind.u64 (m : Int) 4503599627370495 = (f : Int)) (e2 : bits BinOp.or IntKind.u64 9218868437227405312 (f : Int) = (v : Int)) (hf : ((f : Int) == 0) = true) (e3 : bits BinOp.or IntKind.u64 (v : Int) 1 = (v2 : Int)) (e4 : bits BinOp.or IntKind.u64 (v2 : Int) 9223372036854775808 = (b : Int))
    (hb : b < 18446744073709551616) (h1 : fe b = 2047) (h2 : fm b ≠ 0) :
    Calls Tryd.prog 9 #[.int .u64 m, .bool true] w fun e w' => e = .returned (.bool true) ∧ Below w.heap.size w w' := by
  have c1 := nan_sgl b hb h1 h2
  have c2 := nan_hlf b hb h1 h2
  have c3 := nan_canon b hb h1 h2
  have c4 := nan_cls b hb h1 h2
  have c5 := nan_may b hb h1 h2
  have C := Lib.hid (And.intro c1 (And.intro c2 (And.intro c3 (And.intro c4 c5))))
  clear c1 c2 c3 c4 c5 h1 h2
  go_enter Tryd.func9, Tryd.ntmps9
  repeat any_goals (first | (go_at_call 22; refine (C.out.1 _ hT).mono ?_; rintro e w1 ⟨rfl, hb1⟩) | (go_at_call 24; refine (C.out.2.1 _ (hT.below hb1)).mono ?_; rintro e w2 ⟨rfl, hb2⟩) | (go_at_call 13; refine (told_any _ ((hT.below hb1).below hb2)).mono ?_; rintro e w3 ⟨rfl, hb3⟩) | (go_at_call 18; refine (C.out.2.2.1 _ (((hT.below hb1).below hb2).below hb3)).mono ?_; rintro e w4 ⟨rfl, hb4⟩) | (go_at_call 14; refine (C.out.2.2.2.1 _ ((((hT.below hb1).below hb2).below hb3).below hb4)).mono ?_; rintro e w5 ⟨rfl, hb5⟩) | (go_at_call 16; refine (C.out.2.2.2.2 _ (((((hT.below hb1).below hb2).below hb3).below hb4).below hb5)).mono ?_; rintro e w6 ⟨rfl, hb6⟩) | (go_at_call 28; refine (nan_single _ ((((((hT.below hb1).below hb2).below hb3).below hb4).below hb5).below hb6)).mono ?_; rintro e w7 ⟨rfl, hb7⟩) | (go_at_call 26; refine (nan_half _).mono ?_; rintro e w' ⟨rfl, rfl⟩) | go_skip | go_guarded | go_step | go_upon | (dsimp only []))
  go_ret
  exact ⟨by simp, by (repeat first | with_reducible exact Below.refl _ _ | with_reducible assumption | with_reducible refine Below.drew ?_ | with_reducible refine below_alloc ?_ _ | ((with_reducible refine Below.setCell ?_ ?_ _); rotate_left; (focus (first | with_reducible exact Nat.le_refl _ | (simp; done) | (simp; omega) | omega))) | (with_reducible refine below_trans ?_ (by assumption)))⟩
/-- **FloatNaNs.** -/
theorem NaNs_any (m : Nat) (neg : Bool) (hm : m < 18446744073709551616) (w : World) (hT : Tab w) :
    Calls Tryd.prog 9 #[.int .u64 m, .bool neg] w fun e w' => e = .returned (.bool true) ∧ Below w.heap.size w w' := by
  have e1 : bits BinOp.and IntKind.u64 (m : Int) 4503599627370495 = ((fm m : Nat) : Int) := wand52 hm
  have f1 : fm m < 4503599627370496 := by unfold fm; omega
  have e2 : bits BinOp.or IntKind.u64 9218868437227405312 ((fm m : Nat) : Int) = ((9218868437227405312 + fm m : Nat) : Int) := by
    have h := u64_or_nat 9218868437227405312 (fm m) (by decide) (by omega)
    rw [nat_join 52 _ (fm m) (by decide) (by omega)] at h
    exact h
  generalize hf : fm m = f at *
  have sgn : ∀ v : Nat, v < 9223372036854775808 → bits BinOp.or IntKind.u64 (v : Int) 9223372036854775808 = ((9223372036854775808 + v : Nat) : Int) := by
    intro v hv
    have h := u64_or_nat v 9223372036854775808 (by omega) (by decide)
    rw [Nat.or_comm, nat_join 63 _ v (by decide) (by omega)] at h
    exact h
  by_cases h0 : f = 0
  · subst h0
    have e3 : bits BinOp.or IntKind.u64 ((9218868437227405312 + 0 : Nat) : Int) 1 = ((9218868437227405313 : Nat) : Int) := by decide
    cases neg with
    | false => exact NaNs_c m 0 _ 9218868437227405313 hm w hT e1 e2 rfl e3 (by decide) (by decide) (by decide)
    | true => exact NaNs_d m 0 _ 9218868437227405313 18442240474082181121 hm w hT e1 e2 rfl e3 (sgn _ (by decide)) (by decide) (by decide) (by decide)
  · have hz : ((f : Int) == 0) = false := by simp; omega
    cases neg with
    | false => exact NaNs_a m f _ hm w hT e1 e2 hz (by omega) (by unfold fe; omega) (by unfold fm; omega)
    | true => exact NaNs_b m f _ _ hm w hT e1 e2 hz (sgn _ (by omega)) (by omega) (by unfold fe; omega) (by unfold fm; omega)
end Go.Proofs.YtpmfnhcnldoelaaDoor
